/- Contracts of the given functions, on data. Conditions stand in each theorem. -/
import Derived.Test.YtlhhckpjcglinaaGreatDoorGAzZ
import Derived.Test.YtlhhckpjcglinaaGreatDoorGAzRZ
import Derived.Test.YtlhhckpjcglinaaGreatDoorGEvZ
set_option linter.unusedSimpArgs false
set_option linter.unusedVariables false
namespace Go.Ev.Ar
open Go Go.Ev Go.Proofs

theorem dsign_at {x : D} {q : Dyadic} {s : Int} (hx : DyR x q) (h : dsg q = s) : Sim Tryz.prog G0 true 135 [x] (.int .i64 s) := h ▸ dsign_sim hx
/-- Data of few limbs that means a point. -/
inductive CxF : D → Cq → Prop where
  | mk {b : Bool} {l : List UInt32} {e : Int} {c : Bool} {k : List UInt32} {f : Int} {p q : Dyadic} (hp : DyF (.agg [.bool b, sl l, .int .i64 e]) p) (hq : DyF (.agg [.bool c, sl k, .int .i64 f]) q) :
    CxF (.agg [.bool b, sl l, .int .i64 e, .bool c, sl k, .int .i64 f]) (p, q)
theorem cxF_few {n : Nat} (b : Nat) {B : Int} (hB : B = b) {r : RC} (hn : n ≤ 1000) (hb : b ≤ 100000) (h : r.few n B = true) : CxF (.agg r.cells) r.val := by
  subst hB
  have h := RC.few_iff.1 h
  exact .mk (.mk _ _ _ (by omega) (by omega) (by omega)) (.mk _ _ _ (by omega) (by omega) (by omega))
theorem rcplx_sim {x : D} {z : Cq} (hx : CxF x z) : Sim Tryz.prog G0 false 30 [x] (cxD z) := by
  obtain ⟨hp, hq⟩ := hx
  refine sim_mk tab_ok Tryz.func30 rfl (by kernel_rfl) rfl ⟨Nat.le_of_ble_eq_true rfl, Nat.le_of_ble_eq_true rfl⟩ ?_
  repeat' ((conv => whnf); first
    | refine CallE.mk _ _ (rExact_sim hp) ?_
    | refine CallE.mk _ _ (rExact_sim hq) ?_
    | refine RegE.early (Cd.mk (show regOk _ _ _ _ = true by kernel_rfl) ?_)
    | refine Cd.mk rfl ?_
    | (refine TkE.fL ?_; (conv => whnf); fail_if_success (show forceL _ _))
    | refine Res.mk ?_
    | ((with_reducible refine EqE.idS ?_); (refine EqE.fP ?_; (conv => whnf); fail_if_success (show forceL _ _)))
    | refine Cd.mk (Nat.le_of_ble_eq_true rfl) ?_)
  rfl
theorem rof_sim (m n : Int) (h1 : -9223372036854775808 ≤ m) (h2 : m ≤ 9223372036854775807) (h3 : -9223372036854775808 ≤ n) (h4 : n ≤ 9223372036854775807) : Sim Tryz.prog G0 false 124 [.int .i64 m, .int .i64 n] (cxD (dof m 0, dof n 0)) := by
  refine sim_mk tab_ok Tryz.func124 rfl (by kernel_rfl) rfl ⟨Nat.le_of_ble_eq_true rfl, Nat.le_of_ble_eq_true rfl⟩ ?_
  repeat' ((conv => whnf); first
    | with_reducible refine CallX.data ?_
    | refine CallE.mk _ _ (rofd_sim _ h1 h2) ?_
    | refine CallE.mk _ _ (rofd_sim _ h3 h4) ?_
    | refine RegE.early (Cd.mk (show regOk _ _ _ _ = true by kernel_rfl) ?_)
    | refine Cd.mk rfl ?_
    | (refine TkE.fL ?_; (conv => whnf); fail_if_success (show forceL _ _))
    | refine Res.mk ?_
    | ((with_reducible refine EqE.idS ?_); (refine EqE.fP ?_; (conv => whnf); fail_if_success (show forceL _ _)))
    | refine Cd.mk (Nat.le_of_ble_eq_true rfl) ?_)
  rfl
theorem rdsign_at {p : Dyadic} {s : Int} (hp : Ht 50000 p) (h : dsg p = s) : Sim Tryz.prog G0 true 26 [dyD p] (.int .i64 s) := h ▸ rdsign_sim hp
def kz : List Cq := [(dof 1 0, dof 0 0), (dof 0 0, dof 1 0), (dof (-1) 0, dof 0 0), (dof 0 0, dof (-1) 0)]
theorem kz_number : number kz = (1, true) := by decide
theorem kz_turn : turn (dof 1 0, dof 0 0) (dof 0 0, dof 1 0) = (1, true) := by decide
theorem kz_turn2 : (turn (dof 1 0, dof 0 0) (dof (-1) 0, dof 0 0)).2 = false := by decide
theorem kz_quart : quart (dof 0 0, dof (-1) 0) = 3 := by decide
theorem kz_side : dsg (cross (dof 1 0, dof 0 0) (dof 0 0, dof 1 0)) = 1 := by decide
end Go.Ev.Ar

namespace Go.Ev.Ar
open Go Go.Ev Go.Proofs

theorem ht_one (n : Int) (h : n.natAbs ≤ 8) : Ht 100 (dof n 0) := Ht.dof (a := 64) (b := 0) (Zt.small (by omega) (by decide)) (by decide) (by decide) (by decide)
theorem hc_kz {m n : Int} (h : m.natAbs ≤ 8) (h2 : n.natAbs ≤ 8) : Hc 100 (dof m 0, dof n 0) := ⟨ht_one m h, ht_one n h2⟩
theorem kx {m n : Int} (h : m.natAbs ≤ 8) (h2 : n.natAbs ≤ 8) : CxR (cxD (dof m 0, dof n 0)) (dof m 0, dof n 0) := .of ((hc_kz h h2).mono (by decide))
theorem cx0 : D.agg [.bool false, sl [], .int .i64 0, .bool false, sl [], .int .i64 0] = cxD (0, 0) := by
  show _ = D.agg [.bool _, sl (ofN 0), .int .i64 _, .bool _, sl (ofN 0), .int .i64 _]
  rw [ofN_zero]; rfl
theorem few_cx {r : RC} (h : r.few 10 1000 = true) : CxR (.agg r.cells) r.val ∧ CxF (.agg r.cells) r.val ∧ Hc 1320 r.val := ⟨RC.cxR 1000 (by decide) (by decide) (by decide) h, cxF_few 1000 (by decide) (by decide) (by decide) h, RC.hc 1000 1320 (by decide) (by decide) h⟩
end Go.Ev.Ar
