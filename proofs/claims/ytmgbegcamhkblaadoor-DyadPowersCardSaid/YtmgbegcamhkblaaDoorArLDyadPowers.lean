/- Contracts of the given functions, on data. Conditions stand in each theorem. -/
import Derived.Test.YtmgbegcamhkblaaDoorArDyL
set_option linter.unusedSimpArgs false
set_option linter.unusedVariables false
namespace Go.Ev.Ar
open Go Go.Ev Go.Proofs

set_option maxHeartbeats 4000000 in
theorem dyadpowers_sim (b : Bool) (l : List UInt32) (e : Int) (n f : Int) (hl : l.length ≤ 9223372036854775807) :
    Sim Tryd.prog G0 true 8 [.agg [.bool b, sl l, .int .i64 e], .int .i64 n, .int .i64 f] (.bool true) := by
  refine sim_mk tab_ok Tryd.func8 rfl (by kernel_rfl) rfl (Nat.le_of_ble_eq_true rfl) ?_
  by_cases g : l.length ≤ 3 ∧ -500 ≤ e ∧ e ≤ 500
  · obtain ⟨g1, g2, g3⟩ := g
    have hx : DyR (.agg [.bool b, sl l, .int .i64 e]) (dof (zv b l) e) := dyR_few (n := 3) (b := 500) (by decide) (by decide) ⟨g1, g2, g3⟩
    have hp : Ht 596 (dof (zv b l) e) := ht_few (n := 3) (b := 500) ⟨g1, g2, g3⟩
    have zx : ZR (.agg [.bool b, sl l]) (zv b l) := .mk _ _ (by omega)
    have zp : Zt 96 (zv b l) := .of_len g1 (by decide)
    have ex : dof (zv b l) (min (max e (-20000)) 20000) = dof (zv b l) e := by rw [clamp_id (by omega) (by omega)]
    have he : Ht 20096 (dof (zv b l) (min (max f (-20000)) 20000)) := Ht.dof (a := 96) (b := 20000) zp (by omega) (by omega) (by decide)
    have hs : Ht 20001 (dof 1 (min (max f (-20000)) 20000)) := Ht.scl 20000 (by omega) (by omega)
    generalize dof (zv b l) e = p at *
    have hw : Ht 38145 (p ^ (min (max n 0) 64).toNat) := (hp.pow _).mono (by omega)
    repeat' ((conv => whnf); first
      | with_reducible refine Br.dec (fun h => absurd h (by omega)) (fun _ => ?_)
      | refine CallE.mk _ _ (known4_sim) ?_
      | refine CallE.mk _ _ (rmake_at zx (zp.mono (by decide)) ex) ?_
      | refine CallE.mk _ _ (dmake_sim _ zx (zp.mono (by decide))) ?_
      | refine CallE.mk _ _ (rmake_sim _ zx (zp.mono (by decide))) ?_
      | refine CallE.mk _ _ (dpow_sim _ hx (by first | assumption | (apply Ht.mono; (focus (repeat' (first | assumption | with_reducible apply Ht.add' | with_reducible apply Ht.sub' | with_reducible apply Ht.mul' | with_reducible apply Ht.neg | with_reducible apply Ht.abs | exact Ht.one | exact Ht.zero 0 | exact Ht.cst (by decide)))); decide))) ?_
      | refine CallE.mk _ _ (rdpow_sim _ (p := p) (by first | assumption | (apply Ht.mono; (focus (repeat' (first | assumption | with_reducible apply Ht.add' | with_reducible apply Ht.sub' | with_reducible apply Ht.mul' | with_reducible apply Ht.neg | with_reducible apply Ht.abs | exact Ht.one | exact Ht.zero 0 | exact Ht.cst (by decide)))); decide))) ?_
      | refine CallE.mk _ _ (requal_at (by first | assumption | (apply Ht.mono; (focus (repeat' (first | assumption | with_reducible apply Ht.add' | with_reducible apply Ht.sub' | with_reducible apply Ht.mul' | with_reducible apply Ht.neg | with_reducible apply Ht.abs | exact Ht.one | exact Ht.zero 0 | exact Ht.cst (by decide)))); decide))) ?_
      | refine CallE.mk _ _ (dscale_sim _ hx) ?_
      | refine CallE.mk _ _ (rdscale_sim _ (p := p) (by first | assumption | (apply Ht.mono; (focus (repeat' (first | assumption | with_reducible apply Ht.add' | with_reducible apply Ht.sub' | with_reducible apply Ht.mul' | with_reducible apply Ht.neg | with_reducible apply Ht.abs | exact Ht.one | exact Ht.zero 0 | exact Ht.cst (by decide)))); decide))) ?_
      | refine CallE.mk _ _ (dis_sim b l f (by omega)) ?_
      | refine CallE.mk _ _ (ris_sim b l f (by omega)) ?_
      | refine Cd.mk (show regOk _ _ _ _ = true by kernel_rfl) ?_
      | refine Cd.mk rfl ?_
      | refine Br.t ?_
      | refine Br.f ?_
      | with_reducible refine Br.eqd ?_
      | with_reducible refine Br.eqb ?_
      | with_reducible refine Br.dec (fun _ => ?_) (fun _ => ?_)
      | with_reducible refine Br.ndec (fun _ => ?_) (fun _ => ?_)
      | refine Br.mk (fun _ => ?_) (fun _ => ?_)
      | refine NthE.mk _ rfl ?_
      | refine And.intro (fun _ => ?_) ?_
      | refine TkE.mk _ rfl rfl ?_
      | refine Res.mk ?_
      | refine DsE.mk [] rfl ?_
      | refine LoopEnd.go _ _ ⟨.inl rfl, rfl, rfl, by first | rfl | (repeat first | exact all_nil _ | refine all_la _ _ _ _ _ ?_)⟩ ?_
      | ((with_reducible refine EqE.idW ?_); first  | with_reducible refine EqE.mk _ (n_i64 _ (by omega)) ?_ | with_reducible refine EqE.mk _ (n_succ _ (by omega)) ?_ | refine EqE.mk _ (wrap_in (by omega) (by omega)) ?_ | refine EqE.mk _ rfl ?_)
      | ((with_reducible refine EqE.idM ?_); first  | refine EqE.mk _ rfl ?_)
      | ((with_reducible refine EqE.idI ?_); first  | refine EqE.mk _ (max_eq _ _) ?_ | refine EqE.mk _ (min_eq _ _) ?_)
      | ((with_reducible refine EqE.idS ?_); first  | refine EqE.mk _ rfl ?_)
      | ((with_reducible refine EqE.idL ?_); first  | refine EqE.mk _ (sl_own _ _ _ _ (by omega) (by omega) rfl) ?_ | refine EqE.mk _ rfl ?_)
      | refine EqE.mk _ rfl ?_
      | refine Cd.mk (Nat.le_of_ble_eq_true rfl) ?_
      | refine Cd.mk ⟨rfl, rfl⟩ ?_
      | refine Cd.mk (by first | omega | (simp only [length_limbs, length_la]; omega)) ?_
      | refine Cd.mk ?_ ?_)
    show D.bool true = D.bool (isDy b l f == isDy b l f)
    rw [beq_self_eq_true]
  · repeat' ((conv => whnf); first
      | refine CallE.mk _ _ (known4_sim) ?_
      | refine Cd.mk (show regOk _ _ _ _ = true by kernel_rfl) ?_
      | refine Cd.mk rfl ?_
      | refine Br.t ?_
      | refine Br.f ?_
      | with_reducible refine Br.eqd ?_
      | with_reducible refine Br.eqb ?_
      | with_reducible refine Br.dec (fun _ => ?_) (fun _ => ?_)
      | with_reducible refine Br.ndec (fun _ => ?_) (fun _ => ?_)
      | refine Br.mk (fun _ => ?_) (fun _ => ?_)
      | refine NthE.mk _ rfl ?_
      | refine And.intro (fun _ => ?_) ?_
      | refine TkE.mk _ rfl rfl ?_
      | refine Res.mk ?_
      | refine DsE.mk [] rfl ?_
      | refine LoopEnd.go _ _ ⟨.inl rfl, rfl, rfl, by first | rfl | (repeat first | exact all_nil _ | refine all_la _ _ _ _ _ ?_)⟩ ?_
      | ((with_reducible refine EqE.idW ?_); first  | with_reducible refine EqE.mk _ (n_i64 _ (by omega)) ?_ | with_reducible refine EqE.mk _ (n_succ _ (by omega)) ?_ | refine EqE.mk _ (wrap_in (by omega) (by omega)) ?_ | refine EqE.mk _ rfl ?_)
      | ((with_reducible refine EqE.idM ?_); first  | refine EqE.mk _ rfl ?_)
      | ((with_reducible refine EqE.idI ?_); first  | refine EqE.mk _ (max_eq _ _) ?_ | refine EqE.mk _ (min_eq _ _) ?_)
      | ((with_reducible refine EqE.idS ?_); first  | refine EqE.mk _ rfl ?_)
      | ((with_reducible refine EqE.idL ?_); first  | refine EqE.mk _ (sl_own _ _ _ _ (by omega) (by omega) rfl) ?_ | refine EqE.mk _ rfl ?_)
      | refine EqE.mk _ rfl ?_
      | refine Cd.mk (Nat.le_of_ble_eq_true rfl) ?_
      | refine Cd.mk ⟨rfl, rfl⟩ ?_
      | refine Cd.mk (by first | omega | (simp only [length_limbs, length_la]; omega)) ?_
      | refine Cd.mk ?_ ?_)
    all_goals first | rfl | omega
end Go.Ev.Ar
