/- Contracts of the given functions, on data. Conditions stand in each theorem. -/
import Derived.Test.YtagjickjfjgfpaaGreatDoorGAvRectB
import Derived.Test.YtagjickjfjgfpaaGreatDoorGAvRReal
import Derived.Test.YtagjickjfjgfpaaGreatDoorGAvWind
set_option linter.unusedSimpArgs false
set_option linter.unusedVariables false
namespace Go.Ev.Ar
open Go Go.Ev Go.Proofs

/-- Data of few limbs that means a rectangle. -/
inductive RcF : D → Cq → Cq → Prop where
  | mk {b : Bool} {l : List UInt32} {e : Int} {c : Bool} {k : List UInt32} {f : Int} {b' : Bool} {l' : List UInt32} {e' : Int} {c' : Bool} {k' : List UInt32} {f' : Int} {z w : Cq}
    (h1 : CxF (.agg [.bool b, sl l, .int .i64 e, .bool c, sl k, .int .i64 f]) z) (h2 : CxF (.agg [.bool b', sl l', .int .i64 e', .bool c', sl k', .int .i64 f']) w) :
    RcF (.agg [.bool b, sl l, .int .i64 e, .bool c, sl k, .int .i64 f, .bool b', sl l', .int .i64 e', .bool c', sl k', .int .i64 f']) z w
theorem rRect_is {x : D} {z r : Rq} (hx : RcF x z.1 z.2) (hz : Hr 48000 z) (h : rof2 z = r) : Sim Tryz.prog G0 false 55 [x] (rqD r) := by
  subst h
  obtain ⟨a, b⟩ := z
  obtain ⟨h1, h2⟩ := hx
  have g1 := rReal_is h1 hz.1 rfl
  have g2 := rReal_is h2 hz.2 rfl
  refine sim_mk tab_ok Tryz.func55 rfl (by kernel_rfl) rfl ⟨Nat.le_of_ble_eq_true rfl, Nat.le_of_ble_eq_true rfl⟩ ?_
  repeat' ((conv => whnf); first
    | refine CallE.mk _ _ (g1) ?_
    | refine CallE.mk _ _ (g2) ?_
    | refine RegE.early (Cd.mk (show regOk _ _ _ _ = true by kernel_rfl) ?_)
    | refine Cd.mk rfl ?_
    | (refine TkE.fL ?_; (conv => whnf); fail_if_success (show forceL _ _))
    | refine Res.mk ?_
    | ((with_reducible refine EqE.idS ?_); (refine EqE.fP ?_; (conv => whnf); fail_if_success (show forceL _ _)))
    | refine Cd.mk (Nat.le_of_ble_eq_true rfl) ?_)
  rfl
theorem rPoint_is (c : Cq) : Sim Tryz.prog G0 false 34 [cxD c] (rqD ((c.1, c.1), (c.2, c.2))) := by
  obtain ⟨_, _⟩ := c
  refine sim_mk tab_ok Tryz.func34 rfl (by kernel_rfl) rfl ⟨Nat.le_of_ble_eq_true rfl, Nat.le_of_ble_eq_true rfl⟩ ?_
  repeat' ((conv => whnf); first
    | refine RegE.early (Cd.mk (show regOk _ _ _ _ = true by kernel_rfl) ?_)
    | refine Cd.mk rfl ?_
    | (refine TkE.fL ?_; (conv => whnf); fail_if_success (show forceL _ _))
    | refine Res.mk ?_
    | ((with_reducible refine EqE.idS ?_); (refine EqE.fP ?_; (conv => whnf); fail_if_success (show forceL _ _)))
    | refine Cd.mk (Nat.le_of_ble_eq_true rfl) ?_)
  rfl
theorem rEq8_is {a b : Cq} {t : Bool} (ha : Hc 50000 a) (hb : Hc 50000 b) (h : decide (a = b) = t) : Sim Tryz.prog G0 true 49 [cxD a, cxD b] (.bool t) := by
  subst h
  refine sim_mk tab_ok Tryz.func49 rfl (by kernel_rfl) rfl ⟨Nat.le_of_ble_eq_true rfl, Nat.le_of_ble_eq_true rfl⟩ ?_
  repeat' ((conv => whnf); first
    | with_reducible refine CallX.data ?_
    | refine CallE.mk _ _ (requal_sim ha.1 hb.1) ?_
    | refine CallE.mk _ _ (requal_sim ha.2 hb.2) ?_
    | refine RegE.early (Cd.mk (show regOk _ _ _ _ = true by kernel_rfl) ?_)
    | refine Cd.mk rfl ?_
    | refine Br.t ?_
    | refine Br.f ?_
    | with_reducible refine Br.dec (fun _ => ?_) (fun _ => ?_)
    | (refine TkE.fL ?_; (conv => whnf); fail_if_success (show forceL _ _))
    | refine Res.mk ?_)
  · rename_i h
    refine congrArg D.bool (decide_eq_decide.2 ?_)
    rw [Prod.ext_iff]; exact ⟨fun g => g.2, fun g => ⟨h, g⟩⟩
  · rename_i h
    exact congrArg D.bool (decide_eq_false fun g => h (by rw [g]))
theorem rHas8_is {z : Rq} {c : Cq} {t : Bool} (hz : Hr 48000 z) (hc : Hc 48000 c) (h : decide (ihas z.1 c.1 ∧ ihas z.2 c.2) = t) : Sim Tryz.prog G0 true 41 [rqD z, cxD c] (.bool t) := by
  subst h
  obtain ⟨⟨_, _⟩, ⟨_, _⟩⟩ := z
  obtain ⟨_, _⟩ := c
  have g1 := rHas_is hz.1 hc.1 rfl
  have g2 := rHas_is hz.2 hc.2 rfl
  refine sim_mk tab_ok Tryz.func41 rfl (by kernel_rfl) rfl ⟨Nat.le_of_ble_eq_true rfl, Nat.le_of_ble_eq_true rfl⟩ ?_
  repeat' ((conv => whnf); first
    | with_reducible refine CallX.data ?_
    | refine CallE.mk _ _ (g1) ?_
    | refine CallE.mk _ _ (g2) ?_
    | refine RegE.early (Cd.mk (show regOk _ _ _ _ = true by kernel_rfl) ?_)
    | refine Cd.mk rfl ?_
    | refine Br.t ?_
    | refine Br.f ?_
    | with_reducible refine Br.dec (fun _ => ?_) (fun _ => ?_)
    | (refine TkE.fL ?_; (conv => whnf); fail_if_success (show forceL _ _))
    | refine Res.mk ?_)
  · rename_i h
    exact congrArg D.bool (decide_eq_decide.2 ⟨fun g => g.2, fun g => ⟨h, g⟩⟩)
  · rename_i h
    exact congrArg D.bool (decide_eq_false fun g => h g.1)
theorem rAddRect_is {z w r : Rq} (hz : Hr 48000 z) (hw : Hr 48000 w) (h : radd z w = r) : Sim Tryz.prog G0 false 38 [rqD z, rqD w] (rqD r) := by
  subst h
  obtain ⟨⟨_, _⟩, ⟨_, _⟩⟩ := z
  obtain ⟨⟨_, _⟩, ⟨_, _⟩⟩ := w
  have g1 := rAddReal_is hz.1 hw.1 rfl
  have g2 := rAddReal_is hz.2 hw.2 rfl
  refine sim_mk tab_ok Tryz.func38 rfl (by kernel_rfl) rfl ⟨Nat.le_of_ble_eq_true rfl, Nat.le_of_ble_eq_true rfl⟩ ?_
  repeat' ((conv => whnf); first
    | refine CallE.mk _ _ (g1) ?_
    | refine CallE.mk _ _ (g2) ?_
    | refine RegE.early (Cd.mk (show regOk _ _ _ _ = true by kernel_rfl) ?_)
    | refine Cd.mk rfl ?_
    | (refine TkE.fL ?_; (conv => whnf); fail_if_success (show forceL _ _))
    | refine Res.mk ?_
    | ((with_reducible refine EqE.idS ?_); (refine EqE.fP ?_; (conv => whnf); fail_if_success (show forceL _ _)))
    | refine Cd.mk (Nat.le_of_ble_eq_true rfl) ?_)
  rfl
theorem rSquareRect_is {z r : Rq} (hz : Hr 10000 z) (h : rsq z = r) : Sim Tryz.prog G0 false 39 [rqD z] (rqD r) := by
  subst h
  have g1 := rPowReal_is (K := 2) 2 hz.1 c2_le (by decide) rfl
  have g2 := rPowReal_is (K := 2) 2 hz.2 c2_le (by decide) rfl
  have k1 : Hc 20001 (ipow z.1 2) := hz.1.ipow 2 c2_le (by decide)
  have k2 : Hc 20001 (ipow z.2 2) := hz.2.ipow 2 c2_le (by decide)
  have m := rMulReal_is (hz.1.mono (show 10000 ≤ 20000 by decide)) (hz.2.mono (by decide)) rfl
  have km : Hc 20000 (imul z.1 z.2) := hz.1.imul hz.2 (by decide)
  have s := rSubReal_is (k1.mono (show 20001 ≤ 48000 by decide)) (k2.mono (by decide)) rfl
  have t := rAddReal_is (km.mono (show 20000 ≤ 48000 by decide)) (km.mono (by decide)) rfl
  unfold rsq
  generalize isub (ipow z.1 2) (ipow z.2 2) = S at *
  generalize iadd (imul z.1 z.2) (imul z.1 z.2) = T at *
  generalize ipow z.1 2 = P1 at *
  generalize ipow z.2 2 = P2 at *
  generalize imul z.1 z.2 = M at *
  obtain ⟨⟨_, _⟩, ⟨_, _⟩⟩ := z
  obtain ⟨_, _⟩ := P1
  obtain ⟨_, _⟩ := P2
  obtain ⟨_, _⟩ := M
  obtain ⟨_, _⟩ := S
  obtain ⟨_, _⟩ := T
  refine sim_mk tab_ok Tryz.func39 rfl (by kernel_rfl) rfl ⟨Nat.le_of_ble_eq_true rfl, Nat.le_of_ble_eq_true rfl⟩ ?_
  repeat' ((conv => whnf); first
    | with_reducible refine CallX.data ?_
    | refine CallE.mk _ _ (g1) ?_
    | refine CallE.mk _ _ (g2) ?_
    | refine CallE.mk _ _ (m) ?_
    | refine CallE.mk _ _ (s) ?_
    | refine CallE.mk _ _ (t) ?_
    | refine RegE.early (Cd.mk (show regOk _ _ _ _ = true by kernel_rfl) ?_)
    | refine Cd.mk rfl ?_
    | (refine TkE.fL ?_; (conv => whnf); fail_if_success (show forceL _ _))
    | refine Res.mk ?_
    | ((with_reducible refine EqE.idS ?_); (refine EqE.fP ?_; (conv => whnf); fail_if_success (show forceL _ _)))
    | refine Cd.mk (Nat.le_of_ble_eq_true rfl) ?_)
  rfl
def rqC (z : Rq) : List A := dyC z.1.1 ++ dyC z.1.2 ++ dyC z.2.1 ++ dyC z.2.2
end Go.Ev.Ar
