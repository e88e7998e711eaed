/- Contracts of the given functions, on data. Conditions stand in each theorem. -/
import Derived.Test.YtmgbegcamhkblaaDoorArDyL
set_option linter.unusedSimpArgs false
set_option linter.unusedVariables false
namespace Go.Ev.Ar
open Go Go.Ev Go.Proofs

set_option maxHeartbeats 4000000 in
theorem dyadlaws_sim (b : Bool) (l : List UInt32) (e : Int) (c : Bool) (k : List UInt32) (f : Int) (d : Bool) (j : List UInt32) (g : Int) (n : Int) (h1 : -128 ≤ n) (h2 : n ≤ 127) :
    Sim Tryd.prog G0 true 10 [.agg [.bool b, sl l, .int .i64 e], .agg [.bool c, sl k, .int .i64 f], .agg [.bool d, sl j, .int .i64 g], .int .i8 n] (.bool true) := by
  have s1 := few4_sim b l e
  have s2 := few4_sim c k f
  have s3 := few4_sim d j g
  refine sim_mk tab_ok Tryd.func10 rfl (by kernel_rfl) rfl (Nat.le_of_ble_eq_true rfl) ?_
  cases g1 : fewD 20 2000 l e
  · rw [g1] at s1
    repeat' ((conv => whnf); first
      | refine CallE.mk _ _ (known4_sim) ?_
      | refine CallE.mk _ _ (s1) ?_
      | refine Cd.mk (show regOk _ _ _ _ = true by kernel_rfl) ?_
      | refine Cd.mk rfl ?_
      | refine Br.t ?_
      | refine Br.f ?_
      | with_reducible refine Br.eqd ?_
      | with_reducible refine Br.eqb ?_
      | with_reducible refine Br.dec (fun _ => ?_) (fun _ => ?_)
      | with_reducible refine Br.ndec (fun _ => ?_) (fun _ => ?_)
      | refine Br.mk (fun _ => ?_) (fun _ => ?_)
      | refine NthE.mk _ rfl ?_
      | refine And.intro (fun _ => ?_) ?_
      | refine TkE.mk _ rfl rfl ?_
      | refine Res.mk ?_
      | refine DsE.mk [] rfl ?_
      | refine LoopEnd.go _ _ ⟨.inl rfl, rfl, rfl, by first | rfl | (repeat first | exact all_nil _ | refine all_la _ _ _ _ _ ?_)⟩ ?_
      | ((with_reducible refine EqE.idW ?_); first  | with_reducible refine EqE.mk _ (n_i64 _ (by omega)) ?_ | with_reducible refine EqE.mk _ (n_succ _ (by omega)) ?_ | refine EqE.mk _ (wrap_in (by omega) (by omega)) ?_ | refine EqE.mk _ rfl ?_)
      | ((with_reducible refine EqE.idM ?_); first  | refine EqE.mk _ rfl ?_)
      | ((with_reducible refine EqE.idI ?_); first  | refine EqE.mk _ (max_eq _ _) ?_ | refine EqE.mk _ (min_eq _ _) ?_)
      | ((with_reducible refine EqE.idS ?_); first  | refine EqE.mk _ rfl ?_)
      | ((with_reducible refine EqE.idL ?_); first  | refine EqE.mk _ (sl_own _ _ _ _ (by omega) (by omega) rfl) ?_ | refine EqE.mk _ rfl ?_)
      | refine EqE.mk _ rfl ?_
      | refine Cd.mk (Nat.le_of_ble_eq_true rfl) ?_
      | refine Cd.mk ⟨rfl, rfl⟩ ?_
      | refine Cd.mk (by first | omega | (simp only [length_limbs, length_la]; omega)) ?_
      | refine Cd.mk ?_ ?_)
    rfl
  cases g2 : fewD 20 2000 k f
  · rw [g1] at s1
    rw [g2] at s2
    repeat' ((conv => whnf); first
      | refine CallE.mk _ _ (known4_sim) ?_
      | refine CallE.mk _ _ (s1) ?_
      | refine CallE.mk _ _ (s2) ?_
      | refine Cd.mk (show regOk _ _ _ _ = true by kernel_rfl) ?_
      | refine Cd.mk rfl ?_
      | refine Br.t ?_
      | refine Br.f ?_
      | with_reducible refine Br.eqd ?_
      | with_reducible refine Br.eqb ?_
      | with_reducible refine Br.dec (fun _ => ?_) (fun _ => ?_)
      | with_reducible refine Br.ndec (fun _ => ?_) (fun _ => ?_)
      | refine Br.mk (fun _ => ?_) (fun _ => ?_)
      | refine NthE.mk _ rfl ?_
      | refine And.intro (fun _ => ?_) ?_
      | refine TkE.mk _ rfl rfl ?_
      | refine Res.mk ?_
      | refine DsE.mk [] rfl ?_
      | refine LoopEnd.go _ _ ⟨.inl rfl, rfl, rfl, by first | rfl | (repeat first | exact all_nil _ | refine all_la _ _ _ _ _ ?_)⟩ ?_
      | ((with_reducible refine EqE.idW ?_); first  | with_reducible refine EqE.mk _ (n_i64 _ (by omega)) ?_ | with_reducible refine EqE.mk _ (n_succ _ (by omega)) ?_ | refine EqE.mk _ (wrap_in (by omega) (by omega)) ?_ | refine EqE.mk _ rfl ?_)
      | ((with_reducible refine EqE.idM ?_); first  | refine EqE.mk _ rfl ?_)
      | ((with_reducible refine EqE.idI ?_); first  | refine EqE.mk _ (max_eq _ _) ?_ | refine EqE.mk _ (min_eq _ _) ?_)
      | ((with_reducible refine EqE.idS ?_); first  | refine EqE.mk _ rfl ?_)
      | ((with_reducible refine EqE.idL ?_); first  | refine EqE.mk _ (sl_own _ _ _ _ (by omega) (by omega) rfl) ?_ | refine EqE.mk _ rfl ?_)
      | refine EqE.mk _ rfl ?_
      | refine Cd.mk (Nat.le_of_ble_eq_true rfl) ?_
      | refine Cd.mk ⟨rfl, rfl⟩ ?_
      | refine Cd.mk (by first | omega | (simp only [length_limbs, length_la]; omega)) ?_
      | refine Cd.mk ?_ ?_)
    rfl
  cases g3 : fewD 20 2000 j g
  · rw [g1] at s1
    rw [g2] at s2
    rw [g3] at s3
    repeat' ((conv => whnf); first
      | refine CallE.mk _ _ (known4_sim) ?_
      | refine CallE.mk _ _ (s1) ?_
      | refine CallE.mk _ _ (s2) ?_
      | refine CallE.mk _ _ (s3) ?_
      | refine Cd.mk (show regOk _ _ _ _ = true by kernel_rfl) ?_
      | refine Cd.mk rfl ?_
      | refine Br.t ?_
      | refine Br.f ?_
      | with_reducible refine Br.eqd ?_
      | with_reducible refine Br.eqb ?_
      | with_reducible refine Br.dec (fun _ => ?_) (fun _ => ?_)
      | with_reducible refine Br.ndec (fun _ => ?_) (fun _ => ?_)
      | refine Br.mk (fun _ => ?_) (fun _ => ?_)
      | refine NthE.mk _ rfl ?_
      | refine And.intro (fun _ => ?_) ?_
      | refine TkE.mk _ rfl rfl ?_
      | refine Res.mk ?_
      | refine DsE.mk [] rfl ?_
      | refine LoopEnd.go _ _ ⟨.inl rfl, rfl, rfl, by first | rfl | (repeat first | exact all_nil _ | refine all_la _ _ _ _ _ ?_)⟩ ?_
      | ((with_reducible refine EqE.idW ?_); first  | with_reducible refine EqE.mk _ (n_i64 _ (by omega)) ?_ | with_reducible refine EqE.mk _ (n_succ _ (by omega)) ?_ | refine EqE.mk _ (wrap_in (by omega) (by omega)) ?_ | refine EqE.mk _ rfl ?_)
      | ((with_reducible refine EqE.idM ?_); first  | refine EqE.mk _ rfl ?_)
      | ((with_reducible refine EqE.idI ?_); first  | refine EqE.mk _ (max_eq _ _) ?_ | refine EqE.mk _ (min_eq _ _) ?_)
      | ((with_reducible refine EqE.idS ?_); first  | refine EqE.mk _ rfl ?_)
      | ((with_reducible refine EqE.idL ?_); first  | refine EqE.mk _ (sl_own _ _ _ _ (by omega) (by omega) rfl) ?_ | refine EqE.mk _ rfl ?_)
      | refine EqE.mk _ rfl ?_
      | refine Cd.mk (Nat.le_of_ble_eq_true rfl) ?_
      | refine Cd.mk ⟨rfl, rfl⟩ ?_
      | refine Cd.mk (by first | omega | (simp only [length_limbs, length_la]; omega)) ?_
      | refine Cd.mk ?_ ?_)
    rfl
  rw [g1] at s1
  rw [g2] at s2
  rw [g3] at s3
  obtain ⟨hx, hp, _⟩ := few_dy (b := b) g1
  obtain ⟨hy, hq, _⟩ := few_dy (b := c) g2
  obtain ⟨hz, hr, _⟩ := few_dy (b := d) g3
  generalize dof (zv b l) e = p at *
  generalize dof (zv c k) f = q at *
  generalize dof (zv d j) g = r at *
  have e1 : min (max n (-20000)) 20000 = n := clamp_id (by omega) (by omega)
  have e2 : min (max (-n) (-20000)) 20000 = -n := clamp_id (by omega) (by omega)
  have hk1 : Ht 129 (dof 1 n) := Ht.scl 128 (by omega) (by omega)
  have hk2 : Ht 129 (dof 1 (-n)) := Ht.scl 128 (by omega) (by omega)
  have hcc : dof 1 n * dof 1 (-n) = 1 := by rw [dof_mul, Int.add_right_neg]; rfl
  have hsg : IntKind.i64.wrap (dsg p * dsg q) = dsg (p * q) := by rw [← dsg_mul]; exact wrap_in (by have := dsg_cases (p * q); omega) (by have := dsg_cases (p * q); omega)
  have hab : dsg (dabs p) ≥ 0 := dsg_abs p
  repeat' ((conv => whnf); first
    | with_reducible refine Br.dec (fun _ => ?_) (fun h => absurd (by omega) h)
    | refine CallE.mk _ _ (known4_sim) ?_
    | refine CallE.mk _ _ (s1) ?_
    | refine CallE.mk _ _ (s2) ?_
    | refine CallE.mk _ _ (s3) ?_
    | refine CallE.mk _ _ (dsign_sim hx) ?_
    | refine CallE.mk _ _ (dsign_sim hy) ?_
    | refine CallE.mk _ _ (dsign_sim (.of (by first | assumption | (apply Ht.mono; (focus (repeat' (first | assumption | with_reducible apply Ht.add' | with_reducible apply Ht.sub' | with_reducible apply Ht.mul' | with_reducible apply Ht.neg | with_reducible apply Ht.abs | exact Ht.one | exact Ht.zero 0 | exact Ht.cst (by decide)))); decide)))) ?_
    | refine CallE.mk _ _ (dcmp_sim hx hy (by first | assumption | (apply Ht.mono; (focus (repeat' (first | assumption | with_reducible apply Ht.add' | with_reducible apply Ht.sub' | with_reducible apply Ht.mul' | with_reducible apply Ht.neg | with_reducible apply Ht.abs | exact Ht.one | exact Ht.zero 0 | exact Ht.cst (by decide)))); decide))) ?_
    | refine CallE.mk _ _ (dsame_at (.of (by first | assumption | (apply Ht.mono; (focus (repeat' (first | assumption | with_reducible apply Ht.add' | with_reducible apply Ht.sub' | with_reducible apply Ht.mul' | with_reducible apply Ht.neg | with_reducible apply Ht.abs | exact Ht.one | exact Ht.zero 0 | exact Ht.cst (by decide)))); decide))) hx (by first | assumption | (apply Ht.mono; (focus (repeat' (first | assumption | with_reducible apply Ht.add' | with_reducible apply Ht.sub' | with_reducible apply Ht.mul' | with_reducible apply Ht.neg | with_reducible apply Ht.abs | exact Ht.one | exact Ht.zero 0 | exact Ht.cst (by decide)))); decide)) (by grind)) ?_
    | refine CallE.mk _ _ (dsame_at (.of (by first | assumption | (apply Ht.mono; (focus (repeat' (first | assumption | with_reducible apply Ht.add' | with_reducible apply Ht.sub' | with_reducible apply Ht.mul' | with_reducible apply Ht.neg | with_reducible apply Ht.abs | exact Ht.one | exact Ht.zero 0 | exact Ht.cst (by decide)))); decide))) (.of (by first | assumption | (apply Ht.mono; (focus (repeat' (first | assumption | with_reducible apply Ht.add' | with_reducible apply Ht.sub' | with_reducible apply Ht.mul' | with_reducible apply Ht.neg | with_reducible apply Ht.abs | exact Ht.one | exact Ht.zero 0 | exact Ht.cst (by decide)))); decide))) (by first | assumption | (apply Ht.mono; (focus (repeat' (first | assumption | with_reducible apply Ht.add' | with_reducible apply Ht.sub' | with_reducible apply Ht.mul' | with_reducible apply Ht.neg | with_reducible apply Ht.abs | exact Ht.one | exact Ht.zero 0 | exact Ht.cst (by decide)))); decide)) (by grind)) ?_
    | refine CallE.mk _ _ (dadd_sim hx hy) ?_
    | refine CallE.mk _ _ (dadd_sim hy hx) ?_
    | refine CallE.mk _ _ (dadd_sim hy hz) ?_
    | refine CallE.mk _ _ (dmul_sim hx hy) ?_
    | refine CallE.mk _ _ (dmul_sim hx hz) ?_
    | refine CallE.mk _ _ (dmul_sim hx (.of (by first | assumption | (apply Ht.mono; (focus (repeat' (first | assumption | with_reducible apply Ht.add' | with_reducible apply Ht.sub' | with_reducible apply Ht.mul' | with_reducible apply Ht.neg | with_reducible apply Ht.abs | exact Ht.one | exact Ht.zero 0 | exact Ht.cst (by decide)))); decide)))) ?_
    | refine CallE.mk _ _ (dsub_sim hx hy) ?_
    | refine CallE.mk _ _ (dsub_sim (.of (by first | assumption | (apply Ht.mono; (focus (repeat' (first | assumption | with_reducible apply Ht.add' | with_reducible apply Ht.sub' | with_reducible apply Ht.mul' | with_reducible apply Ht.neg | with_reducible apply Ht.abs | exact Ht.one | exact Ht.zero 0 | exact Ht.cst (by decide)))); decide))) hy) ?_
    | refine CallE.mk _ _ (dabs_sim hx) ?_
    | refine CallE.mk _ _ (dis_at (by first | assumption | (apply Ht.mono; (focus (repeat' (first | assumption | with_reducible apply Ht.add' | with_reducible apply Ht.sub' | with_reducible apply Ht.mul' | with_reducible apply Ht.neg | with_reducible apply Ht.abs | exact Ht.one | exact Ht.zero 0 | exact Ht.cst (by decide)))); decide))) ?_
    | refine CallE.mk _ _ (dscale_at hx (congrArg (fun t => p * dof 1 t) e1)) ?_
    | refine CallE.mk _ _ (dscale_at hy (congrArg (fun t => q * dof 1 t) e1)) ?_
    | refine CallE.mk _ _ (dscale_at (p := p + q) (.of (by first | assumption | (apply Ht.mono; (focus (repeat' (first | assumption | with_reducible apply Ht.add' | with_reducible apply Ht.sub' | with_reducible apply Ht.mul' | with_reducible apply Ht.neg | with_reducible apply Ht.abs | exact Ht.one | exact Ht.zero 0 | exact Ht.cst (by decide)))); decide))) (congrArg (fun t => (p + q) * dof 1 t) e1)) ?_
    | refine CallE.mk _ _ (dscale_at (p := p * dof 1 n) (.of (by first | assumption | (apply Ht.mono; (focus (repeat' (first | assumption | with_reducible apply Ht.add' | with_reducible apply Ht.sub' | with_reducible apply Ht.mul' | with_reducible apply Ht.neg | with_reducible apply Ht.abs | exact Ht.one | exact Ht.zero 0 | exact Ht.cst (by decide)))); decide))) (congrArg (fun t => p * dof 1 n * dof 1 t) e2)) ?_
    | refine CallE.mk _ _ (dadd_sim (.of (by first | assumption | (apply Ht.mono; (focus (repeat' (first | assumption | with_reducible apply Ht.add' | with_reducible apply Ht.sub' | with_reducible apply Ht.mul' | with_reducible apply Ht.neg | with_reducible apply Ht.abs | exact Ht.one | exact Ht.zero 0 | exact Ht.cst (by decide)))); decide))) (.of (by first | assumption | (apply Ht.mono; (focus (repeat' (first | assumption | with_reducible apply Ht.add' | with_reducible apply Ht.sub' | with_reducible apply Ht.mul' | with_reducible apply Ht.neg | with_reducible apply Ht.abs | exact Ht.one | exact Ht.zero 0 | exact Ht.cst (by decide)))); decide)))) ?_
    | refine Cd.mk (show regOk _ _ _ _ = true by kernel_rfl) ?_
    | refine Cd.mk rfl ?_
    | refine Br.t ?_
    | refine Br.f ?_
    | with_reducible refine Br.eqd ?_
    | with_reducible refine Br.eqb ?_
    | with_reducible refine Br.dec (fun _ => ?_) (fun _ => ?_)
    | with_reducible refine Br.ndec (fun _ => ?_) (fun _ => ?_)
    | refine Br.mk (fun _ => ?_) (fun _ => ?_)
    | refine NthE.mk _ rfl ?_
    | refine And.intro (fun _ => ?_) ?_
    | refine TkE.mk _ rfl rfl ?_
    | refine Res.mk ?_
    | refine DsE.mk [] rfl ?_
    | refine LoopEnd.go _ _ ⟨.inl rfl, rfl, rfl, by first | rfl | (repeat first | exact all_nil _ | refine all_la _ _ _ _ _ ?_)⟩ ?_
    | ((with_reducible refine EqE.idW ?_); first | refine EqE.mk _ hsg ?_ | refine EqE.mk (-n) (by rw [Int.zero_sub]; exact wrap_in (by omega) (by omega)) ?_ | with_reducible refine EqE.mk _ (n_i64 _ (by omega)) ?_ | with_reducible refine EqE.mk _ (n_succ _ (by omega)) ?_ | refine EqE.mk _ (wrap_in (by omega) (by omega)) ?_ | refine EqE.mk _ rfl ?_)
    | ((with_reducible refine EqE.idM ?_); first  | refine EqE.mk _ rfl ?_)
    | ((with_reducible refine EqE.idI ?_); first  | refine EqE.mk _ (max_eq _ _) ?_ | refine EqE.mk _ (min_eq _ _) ?_)
    | ((with_reducible refine EqE.idS ?_); first  | refine EqE.mk _ rfl ?_)
    | ((with_reducible refine EqE.idL ?_); first  | refine EqE.mk _ (sl_own _ _ _ _ (by omega) (by omega) rfl) ?_ | refine EqE.mk _ rfl ?_)
    | refine EqE.mk _ rfl ?_
    | refine Cd.mk (Nat.le_of_ble_eq_true rfl) ?_
    | refine Cd.mk ⟨rfl, rfl⟩ ?_
    | refine Cd.mk (by first | omega | (simp only [length_limbs, length_la]; omega)) ?_
    | refine Cd.mk ?_ ?_)
  rfl
end Go.Ev.Ar
