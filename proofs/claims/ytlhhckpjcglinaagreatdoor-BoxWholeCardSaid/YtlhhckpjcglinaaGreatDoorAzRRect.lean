/- Contracts of the given functions, on data. Conditions stand in each theorem. -/
import Derived.Test.YtlhhckpjcglinaaGreatDoorGAzRectB
import Derived.Test.YtlhhckpjcglinaaGreatDoorGAzRRo
import Derived.Test.YtlhhckpjcglinaaGreatDoorAzWindQ
set_option linter.unusedSimpArgs false
set_option linter.unusedVariables false
namespace Go.Ev.Ar
open Go Go.Ev Go.Proofs

/-- Data of few limbs that means a rectangle. -/
inductive RcF : D → Cq → Cq → Prop where
  | mk {b : Bool} {l : List UInt32} {e : Int} {c : Bool} {k : List UInt32} {f : Int} {b' : Bool} {l' : List UInt32} {e' : Int} {c' : Bool} {k' : List UInt32} {f' : Int} {z w : Cq}
    (h1 : CxF (.agg [.bool b, sl l, .int .i64 e, .bool c, sl k, .int .i64 f]) z) (h2 : CxF (.agg [.bool b', sl l', .int .i64 e', .bool c', sl k', .int .i64 f']) w) :
    RcF (.agg [.bool b, sl l, .int .i64 e, .bool c, sl k, .int .i64 f, .bool b', sl l', .int .i64 e', .bool c', sl k', .int .i64 f']) z w
theorem rRect_is {x : D} {z r : Rq} (hx : RcF x z.1 z.2) (hz : Hr 48000 z) (h : rof2 z = r) : Sim Tryz.prog G0 false 85 [x] (rqD r) := by
  subst h
  obtain ⟨a, b⟩ := z
  obtain ⟨h1, h2⟩ := hx
  have g1 := rReal_is h1 hz.1 rfl
  have g2 := rReal_is h2 hz.2 rfl
  refine sim_mk tab_ok Tryz.func85 rfl (by kernel_rfl) rfl ⟨Nat.le_of_ble_eq_true rfl, Nat.le_of_ble_eq_true rfl⟩ ?_
  repeat' ((conv => whnf); first
    | refine CallE.mk _ _ (g1) ?_
    | refine CallE.mk _ _ (g2) ?_
    | refine RegE.early (Cd.mk (show regOk _ _ _ _ = true by kernel_rfl) ?_)
    | refine Cd.mk rfl ?_
    | (refine TkE.fL ?_; (conv => whnf); fail_if_success (show forceL _ _))
    | refine Res.mk ?_
    | ((with_reducible refine EqE.idS ?_); (refine EqE.fP ?_; (conv => whnf); fail_if_success (show forceL _ _)))
    | refine Cd.mk (Nat.le_of_ble_eq_true rfl) ?_)
  rfl
theorem rPoint_is (c : Cq) : Sim Tryz.prog G0 false 96 [cxD c] (rqD ((c.1, c.1), (c.2, c.2))) := by
  obtain ⟨_, _⟩ := c
  refine sim_mk tab_ok Tryz.func96 rfl (by kernel_rfl) rfl ⟨Nat.le_of_ble_eq_true rfl, Nat.le_of_ble_eq_true rfl⟩ ?_
  repeat' ((conv => whnf); first
    | refine RegE.early (Cd.mk (show regOk _ _ _ _ = true by kernel_rfl) ?_)
    | refine Cd.mk rfl ?_
    | (refine TkE.fL ?_; (conv => whnf); fail_if_success (show forceL _ _))
    | refine Res.mk ?_
    | ((with_reducible refine EqE.idS ?_); (refine EqE.fP ?_; (conv => whnf); fail_if_success (show forceL _ _)))
    | refine Cd.mk (Nat.le_of_ble_eq_true rfl) ?_)
  rfl
theorem rEq8_is {a b : Cq} {t : Bool} (ha : Hc 50000 a) (hb : Hc 50000 b) (h : decide (a = b) = t) : Sim Tryz.prog G0 true 116 [cxD a, cxD b] (.bool t) := by
  subst h
  refine sim_mk tab_ok Tryz.func116 rfl (by kernel_rfl) rfl ⟨Nat.le_of_ble_eq_true rfl, Nat.le_of_ble_eq_true rfl⟩ ?_
  repeat' ((conv => whnf); first
    | with_reducible refine CallX.data ?_
    | refine CallE.mk _ _ (requal_sim ha.1 hb.1) ?_
    | refine CallE.mk _ _ (requal_sim ha.2 hb.2) ?_
    | refine RegE.early (Cd.mk (show regOk _ _ _ _ = true by kernel_rfl) ?_)
    | refine Cd.mk rfl ?_
    | refine Br.t ?_
    | refine Br.f ?_
    | with_reducible refine Br.dec (fun _ => ?_) (fun _ => ?_)
    | (refine TkE.fL ?_; (conv => whnf); fail_if_success (show forceL _ _))
    | refine Res.mk ?_)
  · rename_i h
    refine congrArg D.bool (decide_eq_decide.2 ?_)
    rw [Prod.ext_iff]; exact ⟨fun g => g.2, fun g => ⟨h, g⟩⟩
  · rename_i h
    exact congrArg D.bool (decide_eq_false fun g => h (by rw [g]))
theorem rEqRect_is {z w : Rq} {t : Bool} (hz : Hr 50000 z) (hw : Hr 50000 w) (h : decide (z = w) = t) : Sim Tryz.prog G0 true 31 [rqD z, rqD w] (.bool t) := by
  subst h
  obtain ⟨⟨_, _⟩, ⟨_, _⟩⟩ := z
  obtain ⟨⟨_, _⟩, ⟨_, _⟩⟩ := w
  have g1 := rEqReal_is hz.1 hw.1 rfl
  have g2 := rEqReal_is hz.2 hw.2 rfl
  refine sim_mk tab_ok Tryz.func31 rfl (by kernel_rfl) rfl ⟨Nat.le_of_ble_eq_true rfl, Nat.le_of_ble_eq_true rfl⟩ ?_
  repeat' ((conv => whnf); first
    | with_reducible refine CallX.data ?_
    | refine CallE.mk _ _ (g1) ?_
    | refine CallE.mk _ _ (g2) ?_
    | refine RegE.early (Cd.mk (show regOk _ _ _ _ = true by kernel_rfl) ?_)
    | refine Cd.mk rfl ?_
    | refine Br.t ?_
    | refine Br.f ?_
    | with_reducible refine Br.dec (fun _ => ?_) (fun _ => ?_)
    | (refine TkE.fL ?_; (conv => whnf); fail_if_success (show forceL _ _))
    | refine Res.mk ?_)
  · rename_i h
    refine congrArg D.bool (decide_eq_decide.2 ?_)
    rw [Prod.ext_iff]; exact ⟨fun g => g.2, fun g => ⟨h, g⟩⟩
  · rename_i h
    exact congrArg D.bool (decide_eq_false fun g => h (by rw [g]))
theorem rHas8_is {z : Rq} {c : Cq} {t : Bool} (hz : Hr 48000 z) (hc : Hc 48000 c) (h : decide (ihas z.1 c.1 ∧ ihas z.2 c.2) = t) : Sim Tryz.prog G0 true 29 [rqD z, cxD c] (.bool t) := by
  subst h
  obtain ⟨⟨_, _⟩, ⟨_, _⟩⟩ := z
  obtain ⟨_, _⟩ := c
  have g1 := rHas_is hz.1 hc.1 rfl
  have g2 := rHas_is hz.2 hc.2 rfl
  refine sim_mk tab_ok Tryz.func29 rfl (by kernel_rfl) rfl ⟨Nat.le_of_ble_eq_true rfl, Nat.le_of_ble_eq_true rfl⟩ ?_
  repeat' ((conv => whnf); first
    | with_reducible refine CallX.data ?_
    | refine CallE.mk _ _ (g1) ?_
    | refine CallE.mk _ _ (g2) ?_
    | refine RegE.early (Cd.mk (show regOk _ _ _ _ = true by kernel_rfl) ?_)
    | refine Cd.mk rfl ?_
    | refine Br.t ?_
    | refine Br.f ?_
    | with_reducible refine Br.dec (fun _ => ?_) (fun _ => ?_)
    | (refine TkE.fL ?_; (conv => whnf); fail_if_success (show forceL _ _))
    | refine Res.mk ?_)
  · rename_i h
    exact congrArg D.bool (decide_eq_decide.2 ⟨fun g => g.2, fun g => ⟨h, g⟩⟩)
  · rename_i h
    exact congrArg D.bool (decide_eq_false fun g => h g.1)
theorem rRectIn_is {z w : Rq} {t : Bool} (hz : Hr 48000 z) (hw : Hr 48000 w) (h : decide (iin z.1 w.1 ∧ iin z.2 w.2) = t) : Sim Tryz.prog G0 true 38 [rqD z, rqD w] (.bool t) := by
  subst h
  obtain ⟨⟨_, _⟩, ⟨_, _⟩⟩ := z
  obtain ⟨⟨_, _⟩, ⟨_, _⟩⟩ := w
  have g1 := rIn_is hz.1 hw.1 rfl
  have g2 := rIn_is hz.2 hw.2 rfl
  refine sim_mk tab_ok Tryz.func38 rfl (by kernel_rfl) rfl ⟨Nat.le_of_ble_eq_true rfl, Nat.le_of_ble_eq_true rfl⟩ ?_
  repeat' ((conv => whnf); first
    | with_reducible refine CallX.data ?_
    | refine CallE.mk _ _ (g1) ?_
    | refine CallE.mk _ _ (g2) ?_
    | refine RegE.early (Cd.mk (show regOk _ _ _ _ = true by kernel_rfl) ?_)
    | refine Cd.mk rfl ?_
    | refine Br.t ?_
    | refine Br.f ?_
    | with_reducible refine Br.dec (fun _ => ?_) (fun _ => ?_)
    | (refine TkE.fL ?_; (conv => whnf); fail_if_success (show forceL _ _))
    | refine Res.mk ?_)
  · rename_i h
    exact congrArg D.bool (decide_eq_decide.2 ⟨fun g => g.2, fun g => ⟨h, g⟩⟩)
  · rename_i h
    exact congrArg D.bool (decide_eq_false fun g => h g.1)
theorem rAddRect_is {z w r : Rq} (hz : Hr 48000 z) (hw : Hr 48000 w) (h : radd z w = r) : Sim Tryz.prog G0 false 110 [rqD z, rqD w] (rqD r) := by
  subst h
  obtain ⟨⟨_, _⟩, ⟨_, _⟩⟩ := z
  obtain ⟨⟨_, _⟩, ⟨_, _⟩⟩ := w
  have g1 := rAddReal_is hz.1 hw.1 rfl
  have g2 := rAddReal_is hz.2 hw.2 rfl
  refine sim_mk tab_ok Tryz.func110 rfl (by kernel_rfl) rfl ⟨Nat.le_of_ble_eq_true rfl, Nat.le_of_ble_eq_true rfl⟩ ?_
  repeat' ((conv => whnf); first
    | refine CallE.mk _ _ (g1) ?_
    | refine CallE.mk _ _ (g2) ?_
    | refine RegE.early (Cd.mk (show regOk _ _ _ _ = true by kernel_rfl) ?_)
    | refine Cd.mk rfl ?_
    | (refine TkE.fL ?_; (conv => whnf); fail_if_success (show forceL _ _))
    | refine Res.mk ?_
    | ((with_reducible refine EqE.idS ?_); (refine EqE.fP ?_; (conv => whnf); fail_if_success (show forceL _ _)))
    | refine Cd.mk (Nat.le_of_ble_eq_true rfl) ?_)
  rfl
theorem rMulRect_is {z w r : Rq} (hz : Hr 20000 z) (hw : Hr 20000 w) (h : rmul z w = r) : Sim Tryz.prog G0 false 112 [rqD z, rqD w] (rqD r) := by
  subst h
  have m1 := rMulReal_is hz.1 hw.1 rfl
  have m2 := rMulReal_is hz.2 hw.2 rfl
  have m3 := rMulReal_is hz.1 hw.2 rfl
  have m4 := rMulReal_is hz.2 hw.1 rfl
  have k1 : Hc 40000 (imul z.1 w.1) := hz.1.imul hw.1 (by decide)
  have k2 : Hc 40000 (imul z.2 w.2) := hz.2.imul hw.2 (by decide)
  have k3 : Hc 40000 (imul z.1 w.2) := hz.1.imul hw.2 (by decide)
  have k4 : Hc 40000 (imul z.2 w.1) := hz.2.imul hw.1 (by decide)
  have s := rSubReal_is (k1.mono (show 40000 ≤ 48000 by decide)) (k2.mono (by decide)) rfl
  have t := rAddReal_is (k3.mono (show 40000 ≤ 48000 by decide)) (k4.mono (by decide)) rfl
  unfold rmul
  generalize isub (imul z.1 w.1) (imul z.2 w.2) = S at *
  generalize iadd (imul z.1 w.2) (imul z.2 w.1) = T at *
  generalize imul z.1 w.1 = M1 at *
  generalize imul z.2 w.2 = M2 at *
  generalize imul z.1 w.2 = M3 at *
  generalize imul z.2 w.1 = M4 at *
  obtain ⟨⟨_, _⟩, ⟨_, _⟩⟩ := z
  obtain ⟨⟨_, _⟩, ⟨_, _⟩⟩ := w
  obtain ⟨_, _⟩ := M1
  obtain ⟨_, _⟩ := M2
  obtain ⟨_, _⟩ := M3
  obtain ⟨_, _⟩ := M4
  obtain ⟨_, _⟩ := S
  obtain ⟨_, _⟩ := T
  refine sim_mk tab_ok Tryz.func112 rfl (by kernel_rfl) rfl ⟨Nat.le_of_ble_eq_true rfl, Nat.le_of_ble_eq_true rfl⟩ ?_
  repeat' ((conv => whnf); first
    | refine CallE.mk _ _ (m1) ?_
    | refine CallE.mk _ _ (m2) ?_
    | refine CallE.mk _ _ (m3) ?_
    | refine CallE.mk _ _ (m4) ?_
    | refine CallE.mk _ _ (s) ?_
    | refine CallE.mk _ _ (t) ?_
    | refine RegE.early (Cd.mk (show regOk _ _ _ _ = true by kernel_rfl) ?_)
    | refine Cd.mk rfl ?_
    | (refine TkE.fL ?_; (conv => whnf); fail_if_success (show forceL _ _))
    | refine Res.mk ?_
    | ((with_reducible refine EqE.idS ?_); (refine EqE.fP ?_; (conv => whnf); fail_if_success (show forceL _ _)))
    | refine Cd.mk (Nat.le_of_ble_eq_true rfl) ?_)
  rfl
theorem rSquareRect_is {z r : Rq} (hz : Hr 10000 z) (h : rsq z = r) : Sim Tryz.prog G0 false 113 [rqD z] (rqD r) := by
  subst h
  have g1 := rPowReal_is (K := 2) 2 hz.1 c2_le (by decide) rfl
  have g2 := rPowReal_is (K := 2) 2 hz.2 c2_le (by decide) rfl
  have k1 : Hc 20001 (ipow z.1 2) := hz.1.ipow 2 c2_le (by decide)
  have k2 : Hc 20001 (ipow z.2 2) := hz.2.ipow 2 c2_le (by decide)
  have m := rMulReal_is (hz.1.mono (show 10000 ≤ 20000 by decide)) (hz.2.mono (by decide)) rfl
  have km : Hc 20000 (imul z.1 z.2) := hz.1.imul hz.2 (by decide)
  have s := rSubReal_is (k1.mono (show 20001 ≤ 48000 by decide)) (k2.mono (by decide)) rfl
  have t := rAddReal_is (km.mono (show 20000 ≤ 48000 by decide)) (km.mono (by decide)) rfl
  unfold rsq
  generalize isub (ipow z.1 2) (ipow z.2 2) = S at *
  generalize iadd (imul z.1 z.2) (imul z.1 z.2) = T at *
  generalize ipow z.1 2 = P1 at *
  generalize ipow z.2 2 = P2 at *
  generalize imul z.1 z.2 = M at *
  obtain ⟨⟨_, _⟩, ⟨_, _⟩⟩ := z
  obtain ⟨_, _⟩ := P1
  obtain ⟨_, _⟩ := P2
  obtain ⟨_, _⟩ := M
  obtain ⟨_, _⟩ := S
  obtain ⟨_, _⟩ := T
  refine sim_mk tab_ok Tryz.func113 rfl (by kernel_rfl) rfl ⟨Nat.le_of_ble_eq_true rfl, Nat.le_of_ble_eq_true rfl⟩ ?_
  repeat' ((conv => whnf); first
    | with_reducible refine CallX.data ?_
    | refine CallE.mk _ _ (g1) ?_
    | refine CallE.mk _ _ (g2) ?_
    | refine CallE.mk _ _ (m) ?_
    | refine CallE.mk _ _ (s) ?_
    | refine CallE.mk _ _ (t) ?_
    | refine RegE.early (Cd.mk (show regOk _ _ _ _ = true by kernel_rfl) ?_)
    | refine Cd.mk rfl ?_
    | (refine TkE.fL ?_; (conv => whnf); fail_if_success (show forceL _ _))
    | refine Res.mk ?_
    | ((with_reducible refine EqE.idS ?_); (refine EqE.fP ?_; (conv => whnf); fail_if_success (show forceL _ _)))
    | refine Cd.mk (Nat.le_of_ble_eq_true rfl) ?_)
  rfl
theorem rNormRect_is {z : Rq} {r : Cq} (hz : Hr 10000 z) (h : rnorm z = r) : Sim Tryz.prog G0 false 115 [rqD z] (cxD r) := by
  subst h
  have g1 := rPowReal_is (K := 2) 2 hz.1 c2_le (by decide) rfl
  have g2 := rPowReal_is (K := 2) 2 hz.2 c2_le (by decide) rfl
  have k1 : Hc 20001 (ipow z.1 2) := hz.1.ipow 2 c2_le (by decide)
  have k2 : Hc 20001 (ipow z.2 2) := hz.2.ipow 2 c2_le (by decide)
  have s := rAddReal_is (k1.mono (show 20001 ≤ 48000 by decide)) (k2.mono (by decide)) rfl
  unfold rnorm
  generalize iadd (ipow z.1 2) (ipow z.2 2) = S at *
  generalize ipow z.1 2 = P1 at *
  generalize ipow z.2 2 = P2 at *
  obtain ⟨⟨_, _⟩, ⟨_, _⟩⟩ := z
  obtain ⟨_, _⟩ := P1
  obtain ⟨_, _⟩ := P2
  obtain ⟨_, _⟩ := S
  refine sim_mk tab_ok Tryz.func115 rfl (by kernel_rfl) rfl ⟨Nat.le_of_ble_eq_true rfl, Nat.le_of_ble_eq_true rfl⟩ ?_
  repeat' ((conv => whnf); first
    | refine CallE.mk _ _ (g1) ?_
    | refine CallE.mk _ _ (g2) ?_
    | refine CallE.mk _ _ (s) ?_
    | refine RegE.early (Cd.mk (show regOk _ _ _ _ = true by kernel_rfl) ?_)
    | refine Cd.mk rfl ?_
    | (refine TkE.fL ?_; (conv => whnf); fail_if_success (show forceL _ _))
    | refine Res.mk ?_
    | ((with_reducible refine EqE.idS ?_); (refine EqE.fP ?_; (conv => whnf); fail_if_success (show forceL _ _)))
    | refine Cd.mk (Nat.le_of_ble_eq_true rfl) ?_)
  rfl
theorem rMiddle8_is {z : Rq} {r : Cq} (hz : Hr 40000 z) (h : rmid z = r) : Sim Tryz.prog G0 false 117 [rqD z] (cxD r) := by
  subst h
  have s1 := rdadd_sim (hz.1.1.mono (show 40000 ≤ 49000 by decide)) (hz.1.2.mono (by decide))
  have s2 := rdadd_sim (hz.2.1.mono (show 40000 ≤ 49000 by decide)) (hz.2.2.mono (by decide))
  have t1 := rdscale_sim (-1) ((hz.1.1.add hz.1.2 (c := 40001) (by decide)).mono (show 40001 ≤ 50000 by decide))
  have t2 := rdscale_sim (-1) ((hz.2.1.add hz.2.2 (c := 40001) (by decide)).mono (show 40001 ≤ 50000 by decide))
  obtain ⟨⟨_, _⟩, ⟨_, _⟩⟩ := z
  refine sim_mk tab_ok Tryz.func117 rfl (by kernel_rfl) rfl ⟨Nat.le_of_ble_eq_true rfl, Nat.le_of_ble_eq_true rfl⟩ ?_
  repeat' ((conv => whnf); first
    | refine CallE.mk _ _ (s1) ?_
    | refine CallE.mk _ _ (s2) ?_
    | refine CallE.mk _ _ (t1) ?_
    | refine CallE.mk _ _ (t2) ?_
    | refine RegE.early (Cd.mk (show regOk _ _ _ _ = true by kernel_rfl) ?_)
    | refine Cd.mk rfl ?_
    | (refine TkE.fL ?_; (conv => whnf); fail_if_success (show forceL _ _))
    | refine Res.mk ?_
    | ((with_reducible refine EqE.idS ?_); (refine EqE.fP ?_; (conv => whnf); fail_if_success (show forceL _ _)))
    | refine Cd.mk (Nat.le_of_ble_eq_true rfl) ?_)
  rfl
theorem rRoundRect_is {z r : Rq} (p : Int) (hz : Hr 9000 z) (h : rround z p = r) : Sim Tryz.prog G0 false 91 [rqD z, .int .i64 p] (rqD r) := by
  subst h
  have g1 := rRoundReal_is p hz.1 rfl
  have g2 := rRoundReal_is p hz.2 rfl
  obtain ⟨⟨_, _⟩, ⟨_, _⟩⟩ := z
  refine sim_mk tab_ok Tryz.func91 rfl (by kernel_rfl) rfl ⟨Nat.le_of_ble_eq_true rfl, Nat.le_of_ble_eq_true rfl⟩ ?_
  repeat' ((conv => whnf); first
    | refine CallE.mk _ _ (g1) ?_
    | refine CallE.mk _ _ (g2) ?_
    | refine RegE.early (Cd.mk (show regOk _ _ _ _ = true by kernel_rfl) ?_)
    | refine Cd.mk rfl ?_
    | (refine TkE.fL ?_; (conv => whnf); fail_if_success (show forceL _ _))
    | refine Res.mk ?_
    | ((with_reducible refine EqE.idS ?_); (refine EqE.fP ?_; (conv => whnf); fail_if_success (show forceL _ _)))
    | refine Cd.mk (Nat.le_of_ble_eq_true rfl) ?_)
  rfl
def rqC (z : Rq) : List A := dyC z.1.1 ++ dyC z.1.2 ++ dyC z.2.1 ++ dyC z.2.2
set_option maxHeartbeats 4000000 in
theorem rPowRect_is {z r : Rq} {H K : Nat} (n : Int) (hz : Hr H z) (hK : clampP n ≤ K) (hb : (H + 1) * K + 1 ≤ 20000) (hH : H ≤ 20000) (h : rpw z (clampP n) = r) : Sim Tryz.prog G0 false 114 [rqD z, .int .i64 n] (rqD r) := by
  have hn : (min (max n 0) 64).toNat = clampP n := rfl
  have one := rof_sim 1 0 (by decide) (by decide) (by decide) (by decide)
  have pt := rPoint_is (dof 1 0, dof 0 0)
  have hp : ∀ i, i ≤ K → Hr 20000 (rpw z i) := fun i hi => (Hr.rpw hz i).mono (Nat.le_trans (Nat.succ_le_succ (Nat.mul_le_mul_left _ hi)) hb)
  have mS : ∀ i, i ≤ K → Sim Tryz.prog G0 false 112 [rqD (rpw z i), rqD z] (rqD (rpw z (i + 1))) := fun i hi => rMulRect_is (hp i hi) (hz.mono hH) rfl
  obtain ⟨⟨a, b⟩, ⟨c, d⟩⟩ := z
  refine sim_mk tab_ok Tryz.func114 rfl (by kernel_rfl) rfl ⟨Nat.le_of_ble_eq_true rfl, Nat.le_of_ble_eq_true rfl⟩ ?_
  repeat' ((conv => whnf); first
    | with_reducible refine CallX.data ?_
    | refine CallE.mk _ _ (one) ?_
    | refine CallE.mk _ _ (pt) ?_
    | refine RegE.early (Cd.mk (show regOk _ _ _ _ = true by kernel_rfl) ?_)
    | refine Cd.mk rfl ?_
    | ((with_reducible refine EqE.idS ?_); (refine EqE.fP ?_; (conv => whnf); fail_if_success (show forceL _ _)))
    | refine Cd.mk (Nat.le_of_ble_eq_true rfl) ?_)
  refine ⟨[], [1, 2, 4, 5, 6], [2, 4, 5], fun m ys h => ∃ (i : Nat), m = (min (max n 0) 64).toNat - i ∧ i ≤ (min (max n 0) 64).toNat ∧ ys = [.d (.int .i64 n), .ptr 2 0, .ptr 4 0, .ptr 5 0, .d (.int .i64 i)] ∧
    h = [(5, false, rqC (rpw ((a, b), (c, d)) i)), (4, false, zeA ++ zeA ++ zeA ++ zeA), (2, false, rqC ((a, b), (c, d)))],
    ⟨_, _, _, ⟨.inl rfl, rfl, rfl, by first | rfl | (repeat first | exact all_nil _ | refine all_la _ _ _ _ _ ?_)⟩, 0, rfl, by omega, rfl, rfl⟩, ?_⟩
  rintro m ys h ⟨i, rfl, hi, rfl, rfl⟩
  by_cases hlt : i < (min (max n 0) 64).toNat
  · have mi := mS i (by omega)
    repeat' ((conv => whnf); first
      | with_reducible refine CallX.data ?_
      | with_reducible refine Br.dec (fun _ => ?_) (fun h => absurd (by omega) h)
      | refine CallE.mk _ _ (mi) ?_
      | refine RegE.early (Cd.mk (show regOk _ _ _ _ = true by kernel_rfl) ?_)
      | refine Cd.mk rfl ?_
      | (refine TkE.fL ?_; (conv => whnf); fail_if_success (show forceL _ _))
      | refine LoopEnd.go _ _ ⟨.inl rfl, rfl, rfl, by first | rfl | (repeat first | exact all_nil _ | refine all_la _ _ _ _ _ ?_)⟩ ?_
      | ((with_reducible refine EqE.idW ?_); with_reducible refine EqE.mk _ (n_succ _ (by omega)) ?_)
      | ((with_reducible refine EqE.idI ?_); refine EqE.mk _ (min_eq _ _) ?_)
      | ((with_reducible refine EqE.idS ?_); (refine EqE.fP ?_; (conv => whnf); fail_if_success (show forceL _ _)))
      | refine Cd.mk (Nat.le_of_ble_eq_true rfl) ?_)
    exact ⟨_, ⟨i + 1, rfl, by omega, rfl, rfl⟩, by omega⟩
  · have e : i = clampP n := by rw [← hn]; omega
    rw [← e] at h
    repeat' ((conv => whnf); first
      | with_reducible refine Br.dec (fun h => absurd h (by omega)) (fun _ => ?_)
      | refine RegE.early (Cd.mk (show regOk _ _ _ _ = true by kernel_rfl) ?_)
      | refine Cd.mk rfl ?_
      | (refine TkE.fL ?_; (conv => whnf); fail_if_success (show forceL _ _))
      | refine Res.mk ?_
      | ((with_reducible refine EqE.idI ?_); refine EqE.mk _ (min_eq _ _) ?_)
      | ((with_reducible refine EqE.idS ?_); (refine EqE.fP ?_; (conv => whnf); fail_if_success (show forceL _ _)))
      | refine Cd.mk (Nat.le_of_ble_eq_true rfl) ?_)
    rw [← h]; rfl
theorem rInvRect_is {z r : Rq} {c : Int} (p : Int) (ho : Ord2 z) (hz : Hr 1340 z) (hp : p ≤ 300) (h : rinvE z p = (r, c)) : Sim Tryz.prog G0 false 87 [rqD z, .int .i64 p] (.tup [rqD r, .int .i64 c]) := by
  have s := rNormRect_is (hz.mono (by decide)) rfl
  have hN : Hc 2700 (rnorm z) := hz.rnorm (by decide)
  have oN := rnorm_ord ho
  have g := rNegReal_is (hz.2.mono (show 1340 ≤ 50000 by decide)) rfl
  have hg : Hc 1340 (ineg z.2) := hz.2.ineg
  obtain ⟨⟨R1, c1⟩, hR1⟩ : ∃ m, idivE z.1 (rnorm z) p = m := ⟨_, rfl⟩
  obtain ⟨⟨R2, c2⟩, hR2⟩ : ∃ m, idivE (ineg z.2) (rnorm z) p = m := ⟨_, rfl⟩
  have d1 := rDivReal_is p oN (hz.1.mono (by decide)) hN hp hR1
  have d2 := rDivReal_is p oN (hg.mono (by decide)) hN hp hR2
  unfold rinvE at h
  rw [hR1, hR2] at h
  unfold idivE at hR1 hR2
  generalize rnorm z = N at *
  generalize ineg z.2 = B at *
  obtain ⟨⟨_, _⟩, ⟨_, _⟩⟩ := z
  by_cases c0 : ihas N 0
  · rw [if_pos c0] at h hR1 hR2
    cases h
    cases hR1
    cases hR2
    obtain ⟨_, _⟩ := N
    obtain ⟨_, _⟩ := B
    refine sim_mk tab_ok Tryz.func87 rfl (by kernel_rfl) rfl ⟨Nat.le_of_ble_eq_true rfl, Nat.le_of_ble_eq_true rfl⟩ ?_
    repeat' ((conv => whnf); first
      | with_reducible refine CallX.data ?_
      | refine CallE.mk _ _ (s) ?_
      | refine CallE.mk _ _ (d1) ?_
      | refine CallE.mk _ _ (g) ?_
      | refine CallE.mk _ _ (d2) ?_
      | refine RegE.early (Cd.mk (show regOk _ _ _ _ = true by kernel_rfl) ?_)
      | refine Cd.mk rfl ?_
      | refine Br.t ?_
      | refine NthE.mk _ rfl ?_
      | (refine TkE.fL ?_; (conv => whnf); fail_if_success (show forceL _ _))
      | refine Res.mk ?_
      | ((with_reducible refine EqE.idS ?_); (refine EqE.fP ?_; (conv => whnf); fail_if_success (show forceL _ _)))
      | refine Cd.mk (Nat.le_of_ble_eq_true rfl) ?_)
    show _ = D.tup [D.agg [.bool false, sl [], .int .i64 0, .bool false, sl [], .int .i64 0, .bool false, sl [], .int .i64 0, .bool false, sl [], .int .i64 0], _]
    rw [rqD_zero]; rfl
  · rw [if_neg c0] at h hR1 hR2
    cases h
    have e1 : c1 = 0 := by cases hR1; rfl
    have e2 : c2 = 0 := by cases hR2; rfl
    subst e1 e2
    clear hR1 hR2
    obtain ⟨_, _⟩ := N
    obtain ⟨_, _⟩ := B
    obtain ⟨_, _⟩ := R1
    obtain ⟨_, _⟩ := R2
    refine sim_mk tab_ok Tryz.func87 rfl (by kernel_rfl) rfl ⟨Nat.le_of_ble_eq_true rfl, Nat.le_of_ble_eq_true rfl⟩ ?_
    repeat' ((conv => whnf); first
      | with_reducible refine CallX.data ?_
      | refine CallE.mk _ _ (s) ?_
      | refine CallE.mk _ _ (d1) ?_
      | refine CallE.mk _ _ (g) ?_
      | refine CallE.mk _ _ (d2) ?_
      | refine RegE.early (Cd.mk (show regOk _ _ _ _ = true by kernel_rfl) ?_)
      | refine Cd.mk rfl ?_
      | refine Br.f ?_
      | refine NthE.mk _ rfl ?_
      | (refine TkE.fL ?_; (conv => whnf); fail_if_success (show forceL _ _))
      | refine Res.mk ?_
      | ((with_reducible refine EqE.idS ?_); (refine EqE.fP ?_; (conv => whnf); fail_if_success (show forceL _ _)))
      | refine Cd.mk (Nat.le_of_ble_eq_true rfl) ?_)
    rfl
theorem rDivRect_is {z w r : Rq} {c : Int} (p : Int) (ho : Ord2 w) (hz : Hr 1340 z) (hw : Hr 1340 w) (hp : p ≤ 300) (h : rdivE z w p = (r, c)) : Sim Tryz.prog G0 false 89 [rqD z, rqD w, .int .i64 p] (.tup [rqD r, .int .i64 c]) := by
  obtain ⟨⟨I, i⟩, hI⟩ : ∃ I, rinvE w p = I := ⟨_, rfl⟩
  have s := rInvRect_is p ho hw hp hI
  have hIt : Hr 6000 I := by
    have k := hw.rinvE (p := p) (K := 300) (by omega)
    rw [hI] at k; exact k.mono (by decide)
  have hc := rinvE_c w p
  unfold rdivE at h
  rw [hI] at h hc
  dsimp only at h hc
  by_cases c0 : ihas (rnorm w) 0
  · rw [if_pos c0] at h hc; cases h
    subst hc
    obtain ⟨⟨_, _⟩, ⟨_, _⟩⟩ := I
    obtain ⟨⟨_, _⟩, ⟨_, _⟩⟩ := z
    obtain ⟨⟨_, _⟩, ⟨_, _⟩⟩ := w
    refine sim_mk tab_ok Tryz.func89 rfl (by kernel_rfl) rfl ⟨Nat.le_of_ble_eq_true rfl, Nat.le_of_ble_eq_true rfl⟩ ?_
    repeat' ((conv => whnf); first
      | with_reducible refine CallX.data ?_
      | refine CallE.mk _ _ (s) ?_
      | refine RegE.early (Cd.mk (show regOk _ _ _ _ = true by kernel_rfl) ?_)
      | refine Cd.mk rfl ?_
      | refine Br.t ?_
      | refine NthE.mk _ rfl ?_
      | (refine TkE.fL ?_; (conv => whnf); fail_if_success (show forceL _ _))
      | refine Res.mk ?_
      | ((with_reducible refine EqE.idS ?_); (refine EqE.fP ?_; (conv => whnf); fail_if_success (show forceL _ _)))
      | refine Cd.mk (Nat.le_of_ble_eq_true rfl) ?_)
    show _ = D.tup [D.agg [.bool false, sl [], .int .i64 0, .bool false, sl [], .int .i64 0, .bool false, sl [], .int .i64 0, .bool false, sl [], .int .i64 0], _]
    rw [rqD_zero]; rfl
  · rw [if_neg c0] at h hc; cases h
    subst hc
    have m := rMulRect_is (hz.mono (by decide)) (hIt.mono (by decide)) rfl
    have hM : Hr 8000 (rmul z I) := hz.rmul hIt (by decide)
    generalize rmul z I = M at *
    have d := rRoundRect_is p (hM.mono (by decide)) rfl
    obtain ⟨⟨_, _⟩, ⟨_, _⟩⟩ := I
    obtain ⟨⟨_, _⟩, ⟨_, _⟩⟩ := M
    obtain ⟨⟨_, _⟩, ⟨_, _⟩⟩ := z
    obtain ⟨⟨_, _⟩, ⟨_, _⟩⟩ := w
    refine sim_mk tab_ok Tryz.func89 rfl (by kernel_rfl) rfl ⟨Nat.le_of_ble_eq_true rfl, Nat.le_of_ble_eq_true rfl⟩ ?_
    repeat' ((conv => whnf); first
      | with_reducible refine CallX.data ?_
      | refine CallE.mk _ _ (s) ?_
      | refine CallE.mk _ _ (m) ?_
      | refine CallE.mk _ _ (d) ?_
      | refine RegE.early (Cd.mk (show regOk _ _ _ _ = true by kernel_rfl) ?_)
      | refine Cd.mk rfl ?_
      | refine Br.f ?_
      | refine NthE.mk _ rfl ?_
      | (refine TkE.fL ?_; (conv => whnf); fail_if_success (show forceL _ _))
      | refine Res.mk ?_
      | ((with_reducible refine EqE.idS ?_); (refine EqE.fP ?_; (conv => whnf); fail_if_success (show forceL _ _)))
      | refine Cd.mk (Nat.le_of_ble_eq_true rfl) ?_)
    rfl
end Go.Ev.Ar
