/- Contracts of the given functions, on data. Conditions stand in each theorem. -/
import Derived.Test.YtmgbegcamhkblaaDoorArDyL
set_option linter.unusedSimpArgs false
set_option linter.unusedVariables false
namespace Go.Ev.Ar
open Go Go.Ev Go.Proofs

set_option maxHeartbeats 4000000 in
theorem dyadforms_sim (b : Bool) (l : List UInt32) (e n : Int) (hl : l.length ≤ 9223372036854775807) (h1 : -32768 ≤ e) (h2 : e ≤ 32767) (h3 : 0 ≤ n) (h4 : n ≤ 255) :
    Sim Tryd.prog G0 true 9 [.agg [.bool b, sl l], .int .i16 e, .int .u8 n] (.bool true) := by
  refine sim_mk tab_ok Tryd.func9 rfl (by kernel_rfl) rfl (Nat.le_of_ble_eq_true rfl) ?_
  by_cases g : l.length ≤ 16
  · have zx : ZR (.agg [.bool b, sl l]) (zv b l) := .mk _ _ (by omega)
    have zp : Zt 512 (zv b l) := .of_len g (by decide)
    have te : -1000 < e.tmod 1000 ∧ e.tmod 1000 < 1000 := by
      have h : (e.tmod 1000).natAbs = e.natAbs % 1000 := Int.natAbs_tmod e 1000
      omega
    have tn : 0 ≤ n.tmod 100 ∧ n.tmod 100 < 100 := by
      rw [Int.tmod_eq_emod_of_nonneg h3]; omega
    generalize he : e.tmod 1000 = E at *
    generalize hn : n.tmod 100 = K at *
    have K0 : K = ((K.toNat : Nat) : Int) := by omega
    have zs : Zt 700 (zv b l * 2 ^ K.toNat) := zp.shl (by omega)
    have d1 : dof (zv b l) (min (max E (-20000)) 20000) = dof (zv b l) E := by rw [clamp_id (by omega) (by omega)]
    have d2 : dof (zv b l * 2 ^ K.toNat) (min (max (E - K) (-20000)) 20000) = dof (zv b l) E := by rw [clamp_id (by omega) (by omega), dof_shl]; congr 1; omega
    have d3 : dof (zv b l * 2 ^ K.toNat) (E - K) = dof (zv b l) E := by rw [dof_shl]; congr 1; omega
    have hp : Ht 2000 (dof (zv b l) E) := Ht.dof (a := 512) (b := 1000) zp (by omega) (by omega) (by decide)
    have hz : DyR (.agg [.bool (zneg (zv b l * 2 ^ K.toNat)), sl (ofN (zv b l * 2 ^ K.toNat).natAbs), .int .i64 (E - K)]) (dof (zv b l) E) :=
      DyR.raw (k := 22) (zs.len (by decide)) (by omega) (by omega) (by decide) (by rw [zv_self]; exact d3)
    generalize dof (zv b l) E = p at *
    repeat' ((conv => whnf); first
      | with_reducible refine Br.dec (fun h => absurd h (by omega)) (fun _ => ?_)
      | refine CallE.mk _ _ (known4_sim) ?_
      | refine CallE.mk _ _ (dmake_at zx (zp.mono (by decide)) d1) ?_
      | refine CallE.mk _ _ (rshlint_sim _ zx (zp.mono (by decide)) (by omega)) ?_
      | refine CallE.mk _ _ (dmake_at (.of (zs.mono (by decide))) (zs.mono (by decide)) d2) ?_
      | refine CallE.mk _ _ (requal_at (by first | assumption | (apply Ht.mono; (focus (repeat' (first | assumption | with_reducible apply Ht.add' | with_reducible apply Ht.sub' | with_reducible apply Ht.mul' | with_reducible apply Ht.neg | with_reducible apply Ht.abs | exact Ht.one | exact Ht.zero 0 | exact Ht.cst (by decide)))); decide))) ?_
      | refine CallE.mk _ _ (dsame_at (.of (by first | assumption | (apply Ht.mono; (focus (repeat' (first | assumption | with_reducible apply Ht.add' | with_reducible apply Ht.sub' | with_reducible apply Ht.mul' | with_reducible apply Ht.neg | with_reducible apply Ht.abs | exact Ht.one | exact Ht.zero 0 | exact Ht.cst (by decide)))); decide))) hz (by first | assumption | (apply Ht.mono; (focus (repeat' (first | assumption | with_reducible apply Ht.add' | with_reducible apply Ht.sub' | with_reducible apply Ht.mul' | with_reducible apply Ht.neg | with_reducible apply Ht.abs | exact Ht.one | exact Ht.zero 0 | exact Ht.cst (by decide)))); decide)) rfl) ?_
      | refine CallE.mk _ _ (dis_at (q := p) (by first | assumption | (apply Ht.mono; (focus (repeat' (first | assumption | with_reducible apply Ht.add' | with_reducible apply Ht.sub' | with_reducible apply Ht.mul' | with_reducible apply Ht.neg | with_reducible apply Ht.abs | exact Ht.one | exact Ht.zero 0 | exact Ht.cst (by decide)))); decide))) ?_
      | refine CallE.mk _ _ (dofn_sim _ (by decide) (by decide)) ?_
      | refine CallE.mk _ _ (dadd_at hz (q := dof 0 0) (.of (by first | assumption | (apply Ht.mono; (focus (repeat' (first | assumption | with_reducible apply Ht.add' | with_reducible apply Ht.sub' | with_reducible apply Ht.mul' | with_reducible apply Ht.neg | with_reducible apply Ht.abs | exact Ht.one | exact Ht.zero 0 | exact Ht.cst (by decide)))); decide))) (Dyadic.add_zero p)) ?_
      | refine CallE.mk _ _ (dcmp_at hz (q := p) (s := 0) (.of (by first | assumption | (apply Ht.mono; (focus (repeat' (first | assumption | with_reducible apply Ht.add' | with_reducible apply Ht.sub' | with_reducible apply Ht.mul' | with_reducible apply Ht.neg | with_reducible apply Ht.abs | exact Ht.one | exact Ht.zero 0 | exact Ht.cst (by decide)))); decide))) (by first | assumption | (apply Ht.mono; (focus (repeat' (first | assumption | with_reducible apply Ht.add' | with_reducible apply Ht.sub' | with_reducible apply Ht.mul' | with_reducible apply Ht.neg | with_reducible apply Ht.abs | exact Ht.one | exact Ht.zero 0 | exact Ht.cst (by decide)))); decide)) (dsg_eq.2 (by grind))) ?_
      | refine Cd.mk (show regOk _ _ _ _ = true by kernel_rfl) ?_
      | refine Cd.mk rfl ?_
      | refine Br.t ?_
      | refine Br.f ?_
      | with_reducible refine Br.eqd ?_
      | with_reducible refine Br.eqb ?_
      | with_reducible refine Br.dec (fun _ => ?_) (fun _ => ?_)
      | with_reducible refine Br.ndec (fun _ => ?_) (fun _ => ?_)
      | refine Br.mk (fun _ => ?_) (fun _ => ?_)
      | refine NthE.mk _ rfl ?_
      | refine And.intro (fun _ => ?_) ?_
      | refine TkE.mk _ rfl rfl ?_
      | refine Res.mk ?_
      | refine DsE.mk [] rfl ?_
      | refine LoopEnd.go _ _ ⟨.inl rfl, rfl, rfl, by first | rfl | (repeat first | exact all_nil _ | refine all_la _ _ _ _ _ ?_)⟩ ?_
      | ((with_reducible refine EqE.idW ?_); first  | with_reducible refine EqE.mk _ (n_i64 _ (by omega)) ?_ | with_reducible refine EqE.mk _ (n_succ _ (by omega)) ?_ | refine EqE.mk _ (wrap_in (by omega) (by omega)) ?_ | refine EqE.mk _ rfl ?_)
      | ((with_reducible refine EqE.idM ?_); first | refine EqE.mk _ he ?_ | refine EqE.mk _ hn ?_ | refine EqE.mk _ rfl ?_)
      | ((with_reducible refine EqE.idI ?_); first  | refine EqE.mk _ (max_eq _ _) ?_ | refine EqE.mk _ (min_eq _ _) ?_)
      | ((with_reducible refine EqE.idS ?_); first  | refine EqE.mk _ rfl ?_)
      | ((with_reducible refine EqE.idL ?_); first  | refine EqE.mk _ (sl_own _ _ _ _ (by omega) (by omega) rfl) ?_ | refine EqE.mk _ rfl ?_)
      | refine EqE.mk _ rfl ?_
      | refine Cd.mk (Nat.le_of_ble_eq_true rfl) ?_
      | refine Cd.mk ⟨rfl, rfl⟩ ?_
      | refine Cd.mk (by first | omega | (simp only [length_limbs, length_la]; omega)) ?_
      | refine Cd.mk ?_ ?_)
    rfl
  · repeat' ((conv => whnf); first
      | with_reducible refine Br.dec (fun _ => ?_) (fun h => absurd (by omega) h)
      | refine CallE.mk _ _ (known4_sim) ?_
      | refine Cd.mk (show regOk _ _ _ _ = true by kernel_rfl) ?_
      | refine Cd.mk rfl ?_
      | refine Br.t ?_
      | refine Br.f ?_
      | with_reducible refine Br.eqd ?_
      | with_reducible refine Br.eqb ?_
      | with_reducible refine Br.dec (fun _ => ?_) (fun _ => ?_)
      | with_reducible refine Br.ndec (fun _ => ?_) (fun _ => ?_)
      | refine Br.mk (fun _ => ?_) (fun _ => ?_)
      | refine NthE.mk _ rfl ?_
      | refine And.intro (fun _ => ?_) ?_
      | refine TkE.mk _ rfl rfl ?_
      | refine Res.mk ?_
      | refine DsE.mk [] rfl ?_
      | refine LoopEnd.go _ _ ⟨.inl rfl, rfl, rfl, by first | rfl | (repeat first | exact all_nil _ | refine all_la _ _ _ _ _ ?_)⟩ ?_
      | ((with_reducible refine EqE.idW ?_); first  | with_reducible refine EqE.mk _ (n_i64 _ (by omega)) ?_ | with_reducible refine EqE.mk _ (n_succ _ (by omega)) ?_ | refine EqE.mk _ (wrap_in (by omega) (by omega)) ?_ | refine EqE.mk _ rfl ?_)
      | ((with_reducible refine EqE.idM ?_); first  | refine EqE.mk _ rfl ?_)
      | ((with_reducible refine EqE.idI ?_); first  | refine EqE.mk _ (max_eq _ _) ?_ | refine EqE.mk _ (min_eq _ _) ?_)
      | ((with_reducible refine EqE.idS ?_); first  | refine EqE.mk _ rfl ?_)
      | ((with_reducible refine EqE.idL ?_); first  | refine EqE.mk _ (sl_own _ _ _ _ (by omega) (by omega) rfl) ?_ | refine EqE.mk _ rfl ?_)
      | refine EqE.mk _ rfl ?_
      | refine Cd.mk (Nat.le_of_ble_eq_true rfl) ?_
      | refine Cd.mk ⟨rfl, rfl⟩ ?_
      | refine Cd.mk (by first | omega | (simp only [length_limbs, length_la]; omega)) ?_
      | refine Cd.mk ?_ ?_)
    rfl
end Go.Ev.Ar
