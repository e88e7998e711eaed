/- Contracts of the given functions, on data. Conditions stand in each theorem. -/
import Derived.Test.YtmgbegcamhkblaaDoorArRoM
set_option linter.unusedSimpArgs false
set_option linter.unusedVariables false
namespace Go.Ev.Ar
open Go Go.Ev Go.Proofs

theorem roTo_is {x : D} {q r : Dyadic} {p mode : Int} (hx : DyR x q) (hq : Ht 100000 q) (h : r = rto q p mode) : Sim Tryd.prog G0 false 74 [x, .int .i64 p, .int .i64 mode] (dyD r) := h ▸ roTo_sim p mode hx hq
theorem roFits_is {x : D} {q : Dyadic} {p : Int} {b : Bool} (hx : DyR x q) (hq : Ht 100000 q) (hr : Ht 500000 (rto q p 0)) (hb : decide (rto q p 0 = q) = b) : Sim Tryd.prog G0 true 80 [x, .int .i64 p] (.bool b) := by
  subst hb; exact roFits_sim p hx hq hr
theorem dcmp_is {x y : D} {p q : Dyadic} {n : Int} (hx : DyR x p) (hy : DyR y q) (hpq : Ht 1048576 (p - q)) (h : dsg (p - q) = n) : Sim Tryd.prog G0 true 56 [x, y] (.int .i64 n) := h ▸ dcmp_sim hx hy hpq
theorem rdscale_is {p q : Dyadic} {n : Int} (hp : Ht 50000 p) (h : p * dof 1 (min (max n (-20000)) 20000) = q) : Sim Tryd.prog G0 false 49 [dyD p, .int .i64 n] (dyD q) := h ▸ rdscale_sim n hp
theorem dsg_sub_le {p q : Dyadic} (h : p ≤ q) : dsg (p - q) ≤ 0 := by rw [dsg_le]; grind
theorem dsg_sub_lt {p q : Dyadic} (h : p < q) : dsg (p - q) < 0 := by rw [dsg_lt]; grind
theorem dsg_sub_ge {p q : Dyadic} (h : q ≤ p) : 0 ≤ dsg (p - q) := by show dsg (p - q) ≥ 0; rw [dsg_ge]; grind
theorem dsame_is {x y : D} {p q : Dyadic} {b : Bool} (hx : DyR x p) (hy : DyR y q) (hpq : Ht 1048576 (p - q)) (h : decide (p = q) = b) : Sim Tryd.prog G0 true 53 [x, y] (.bool b) := h ▸ dsame_sim hx hy hpq
theorem dscale_is {x : D} {p q : Dyadic} {n : Int} (hx : DyR x p) (h : p * dof 1 (min (max n (-20000)) 20000) = q) : Sim Tryd.prog G0 false 48 [x, .int .i64 n] (dyD q) := h ▸ dscale_sim n hx
theorem dneg_is {x : D} {p q : Dyadic} (hx : DyR x p) (h : -p = q) : Sim Tryd.prog G0 false 67 [x] (dyD q) := h ▸ dneg_sim hx
theorem rto_neg (q : Dyadic) (p : Int) : rto (-q) p 1 = -rto q p 0 := by
  by_cases h0 : q = 0
  · subst h0; unfold rto; rw [if_pos (by rfl), if_pos rfl]; rfl
  have h1 : -q ≠ 0 := fun h => h0 (by grind)
  have h2 : unitE (-q) p = unitE q p := by unfold unitE; rw [dtop_neg]
  unfold rto
  rw [if_neg h0, if_neg h1, h2, ← grd_neg]; grind
set_option maxHeartbeats 4000000 in
theorem roundtwice_sim (b : Bool) (l : List UInt32) (e : Int) (m k : Int) (h1 : -128 ≤ k) (h2 : k ≤ 127) (h3 : 0 ≤ m) (h4 : m ≤ 255) : Sim Tryd.prog G0 true 17 [.agg [.bool b, sl l, .int .i64 e], .int .u8 m, .int .i8 k] (.bool true) := by
  have s1 := few5_sim b l e
  refine sim_mk tab_ok Tryd.func17 rfl (by kernel_rfl) rfl (Nat.le_of_ble_eq_true rfl) ?_
  cases g1 : fewD 20 2000 l e
  · rw [g1] at s1
    repeat' ((conv => whnf); first
      | refine CallE.mk _ _ (known5_sim) ?_
      | refine CallE.mk _ _ (s1) ?_
      | refine Cd.mk (show regOk _ _ _ _ = true by kernel_rfl) ?_
      | refine Cd.mk rfl ?_
      | refine Br.t ?_
      | refine Br.f ?_
      | with_reducible refine Br.eqd ?_
      | with_reducible refine Br.eqb ?_
      | with_reducible refine Br.dec (fun _ => ?_) (fun _ => ?_)
      | with_reducible refine Br.ndec (fun _ => ?_) (fun _ => ?_)
      | refine Br.mk (fun _ => ?_) (fun _ => ?_)
      | refine NthE.mk _ rfl ?_
      | refine And.intro (fun _ => ?_) ?_
      | refine TkE.mk _ rfl rfl ?_
      | refine Res.mk ?_
      | refine DsE.mk [] rfl ?_
      | refine LoopEnd.go _ _ ⟨.inl rfl, rfl, rfl, by first | rfl | (repeat first | exact all_nil _ | refine all_la _ _ _ _ _ ?_)⟩ ?_
      | ((with_reducible refine EqE.idW ?_); first  | with_reducible refine EqE.mk _ (n_i64 _ (by omega)) ?_ | with_reducible refine EqE.mk _ (n_succ _ (by omega)) ?_ | refine EqE.mk _ (wrap_in (by omega) (by omega)) ?_ | refine EqE.mk _ rfl ?_)
      | ((with_reducible refine EqE.idM ?_); first  | refine EqE.mk _ rfl ?_)
      | ((with_reducible refine EqE.idI ?_); first  | refine EqE.mk _ (max_eq _ _) ?_ | refine EqE.mk _ (min_eq _ _) ?_)
      | ((with_reducible refine EqE.idS ?_); first  | refine EqE.mk _ rfl ?_)
      | ((with_reducible refine EqE.idL ?_); first  | refine EqE.mk _ (sl_own _ _ _ _ (by omega) (by omega) rfl) ?_ | refine EqE.mk _ rfl ?_)
      | refine EqE.mk _ rfl ?_
      | refine Cd.mk (Nat.le_of_ble_eq_true rfl) ?_
      | refine Cd.mk ⟨rfl, rfl⟩ ?_
      | refine Cd.mk (by first | omega | (simp only [length_limbs, length_la]; omega)) ?_
      | refine Cd.mk ?_ ?_)
    rfl
  rw [g1] at s1
  obtain ⟨hx, hp, zx, zp, ex, lx⟩ := few_dy (b := b) g1
  generalize dof (zv b l) e = p at *
  have hb := dtop_bounds hp
  have q1 : min (max k (-20000)) 20000 = k := by omega
  have q2 : min (max (dtop p - (m + 1) + 1) (-20000)) 20000 = dtop p - (m + 1) + 1 := by omega
  obtain ⟨lo, hlo⟩ : ∃ r, r = rto p (m + 1) 0 := ⟨_, rfl⟩
  obtain ⟨na, hna⟩ : ∃ r, r = rto p (m + 1) 2 := ⟨_, rfl⟩
  obtain ⟨r1, hr1⟩ : ∃ r, r = rto p 1 1 := ⟨_, rfl⟩
  have t1 : Ht 18000 lo := hlo ▸ (rto_ht hp (m + 1) 0).mono (by decide)
  have t2 : Ht 18000 na := hna ▸ (rto_ht hp (m + 1) 2).mono (by decide)
  have t3 : Ht 18000 r1 := hr1 ▸ (rto_ht hp 1 1).mono (by decide)
  have t4 : Ht 201 (dof 1 k) := Ht.scl 200 (by omega) (by omega)
  have t5 : Ht 3000 (p * dof 1 k) := (hp.mul' t4).mono (by decide)
  have t6 : Ht 19000 (na * dof 1 k) := (t2.mul' t4).mono (by decide)
  have t7 : Ht 3000 (-p) := hp.neg.mono (by decide)
  have t8 : Ht 18000 (-lo) := t1.neg
  have u1 : lo = rto lo (m + 1) 1 := by rw [hlo, rto_fix]
  have u2 : lo = rto lo (m + 1) 2 := by rw [hlo, rto_fix]
  have u3 : -lo = rto (-p) (m + 1) 1 := by rw [hlo, rto_neg]
  have u4 : - -lo = lo := by grind
  have u5 : na * dof 1 k = rto (p * dof 1 k) (m + 1) 2 := by rw [hna, rto_scl]
  have u6 : grd p (dtop p - (m + 1) + 1) 0 = lo := by
    rw [hlo]; unfold rto
    split
    · rename_i h; rw [h, grd_zero]
    · unfold unitE; rw [show min (max (m + 1) 1) 4000 = m + 1 by omega]
  have u7 : r1 = rto p 0 1 := hr1
  have z0 : Ht 19000 (lo - lo) := (t1.sub' t1).mono (by decide)
  repeat' ((conv => whnf); first
    | refine CallE.mk _ _ (known5_sim) ?_
    | refine CallE.mk _ _ (s1) ?_
    | refine CallE.mk _ _ (roTo_is (q := p) (r := lo) (mode := 0) hx (by first | assumption | (apply Ht.mono; (focus (repeat' (first | assumption | with_reducible apply Ht.add' | with_reducible apply Ht.sub' | with_reducible apply Ht.mul' | with_reducible apply Ht.neg | with_reducible apply Ht.abs | exact Ht.one | exact Ht.zero 0 | exact Ht.cst (by decide)))); decide)) hlo) ?_
    | refine CallE.mk _ _ (roTo_is (q := lo) (r := lo) (mode := 1) (.of (by first | assumption | (apply Ht.mono; (focus (repeat' (first | assumption | with_reducible apply Ht.add' | with_reducible apply Ht.sub' | with_reducible apply Ht.mul' | with_reducible apply Ht.neg | with_reducible apply Ht.abs | exact Ht.one | exact Ht.zero 0 | exact Ht.cst (by decide)))); decide))) (by first | assumption | (apply Ht.mono; (focus (repeat' (first | assumption | with_reducible apply Ht.add' | with_reducible apply Ht.sub' | with_reducible apply Ht.mul' | with_reducible apply Ht.neg | with_reducible apply Ht.abs | exact Ht.one | exact Ht.zero 0 | exact Ht.cst (by decide)))); decide)) u1) ?_
    | refine CallE.mk _ _ (roTo_is (q := lo) (r := lo) (mode := 2) (.of (by first | assumption | (apply Ht.mono; (focus (repeat' (first | assumption | with_reducible apply Ht.add' | with_reducible apply Ht.sub' | with_reducible apply Ht.mul' | with_reducible apply Ht.neg | with_reducible apply Ht.abs | exact Ht.one | exact Ht.zero 0 | exact Ht.cst (by decide)))); decide))) (by first | assumption | (apply Ht.mono; (focus (repeat' (first | assumption | with_reducible apply Ht.add' | with_reducible apply Ht.sub' | with_reducible apply Ht.mul' | with_reducible apply Ht.neg | with_reducible apply Ht.abs | exact Ht.one | exact Ht.zero 0 | exact Ht.cst (by decide)))); decide)) u2) ?_
    | refine CallE.mk _ _ (dsame_at (p := lo) (q := lo) (.of (by first | assumption | (apply Ht.mono; (focus (repeat' (first | assumption | with_reducible apply Ht.add' | with_reducible apply Ht.sub' | with_reducible apply Ht.mul' | with_reducible apply Ht.neg | with_reducible apply Ht.abs | exact Ht.one | exact Ht.zero 0 | exact Ht.cst (by decide)))); decide))) (.of (by first | assumption | (apply Ht.mono; (focus (repeat' (first | assumption | with_reducible apply Ht.add' | with_reducible apply Ht.sub' | with_reducible apply Ht.mul' | with_reducible apply Ht.neg | with_reducible apply Ht.abs | exact Ht.one | exact Ht.zero 0 | exact Ht.cst (by decide)))); decide))) (by first | assumption | (apply Ht.mono; (focus (repeat' (first | assumption | with_reducible apply Ht.add' | with_reducible apply Ht.sub' | with_reducible apply Ht.mul' | with_reducible apply Ht.neg | with_reducible apply Ht.abs | exact Ht.one | exact Ht.zero 0 | exact Ht.cst (by decide)))); decide)) rfl) ?_
    | refine CallE.mk _ _ (dneg_is (p := p) (q := -p) hx rfl) ?_
    | refine CallE.mk _ _ (roTo_is (q := -p) (r := -lo) (mode := 1) (.of (by first | assumption | (apply Ht.mono; (focus (repeat' (first | assumption | with_reducible apply Ht.add' | with_reducible apply Ht.sub' | with_reducible apply Ht.mul' | with_reducible apply Ht.neg | with_reducible apply Ht.abs | exact Ht.one | exact Ht.zero 0 | exact Ht.cst (by decide)))); decide))) (by first | assumption | (apply Ht.mono; (focus (repeat' (first | assumption | with_reducible apply Ht.add' | with_reducible apply Ht.sub' | with_reducible apply Ht.mul' | with_reducible apply Ht.neg | with_reducible apply Ht.abs | exact Ht.one | exact Ht.zero 0 | exact Ht.cst (by decide)))); decide)) u3) ?_
    | refine CallE.mk _ _ (dneg_is (p := -lo) (q := lo) (.of (by first | assumption | (apply Ht.mono; (focus (repeat' (first | assumption | with_reducible apply Ht.add' | with_reducible apply Ht.sub' | with_reducible apply Ht.mul' | with_reducible apply Ht.neg | with_reducible apply Ht.abs | exact Ht.one | exact Ht.zero 0 | exact Ht.cst (by decide)))); decide))) u4) ?_
    | refine CallE.mk _ _ (dscale_is (p := p) (q := p * dof 1 k) hx (by rw [q1])) ?_
    | refine CallE.mk _ _ (roTo_is (q := p * dof 1 k) (r := na * dof 1 k) (mode := 2) (.of (by first | assumption | (apply Ht.mono; (focus (repeat' (first | assumption | with_reducible apply Ht.add' | with_reducible apply Ht.sub' | with_reducible apply Ht.mul' | with_reducible apply Ht.neg | with_reducible apply Ht.abs | exact Ht.one | exact Ht.zero 0 | exact Ht.cst (by decide)))); decide))) (by first | assumption | (apply Ht.mono; (focus (repeat' (first | assumption | with_reducible apply Ht.add' | with_reducible apply Ht.sub' | with_reducible apply Ht.mul' | with_reducible apply Ht.neg | with_reducible apply Ht.abs | exact Ht.one | exact Ht.zero 0 | exact Ht.cst (by decide)))); decide)) u5) ?_
    | refine CallE.mk _ _ (roTo_is (q := p) (r := na) (mode := 2) hx (by first | assumption | (apply Ht.mono; (focus (repeat' (first | assumption | with_reducible apply Ht.add' | with_reducible apply Ht.sub' | with_reducible apply Ht.mul' | with_reducible apply Ht.neg | with_reducible apply Ht.abs | exact Ht.one | exact Ht.zero 0 | exact Ht.cst (by decide)))); decide)) hna) ?_
    | refine CallE.mk _ _ (dscale_is (p := na) (q := na * dof 1 k) (.of (by first | assumption | (apply Ht.mono; (focus (repeat' (first | assumption | with_reducible apply Ht.add' | with_reducible apply Ht.sub' | with_reducible apply Ht.mul' | with_reducible apply Ht.neg | with_reducible apply Ht.abs | exact Ht.one | exact Ht.zero 0 | exact Ht.cst (by decide)))); decide))) (by rw [q1])) ?_
    | refine CallE.mk _ _ (dsame_at (p := na * dof 1 k) (q := na * dof 1 k) (.of (by first | assumption | (apply Ht.mono; (focus (repeat' (first | assumption | with_reducible apply Ht.add' | with_reducible apply Ht.sub' | with_reducible apply Ht.mul' | with_reducible apply Ht.neg | with_reducible apply Ht.abs | exact Ht.one | exact Ht.zero 0 | exact Ht.cst (by decide)))); decide))) (.of (by first | assumption | (apply Ht.mono; (focus (repeat' (first | assumption | with_reducible apply Ht.add' | with_reducible apply Ht.sub' | with_reducible apply Ht.mul' | with_reducible apply Ht.neg | with_reducible apply Ht.abs | exact Ht.one | exact Ht.zero 0 | exact Ht.cst (by decide)))); decide))) (by first | assumption | (apply Ht.mono; (focus (repeat' (first | assumption | with_reducible apply Ht.add' | with_reducible apply Ht.sub' | with_reducible apply Ht.mul' | with_reducible apply Ht.neg | with_reducible apply Ht.abs | exact Ht.one | exact Ht.zero 0 | exact Ht.cst (by decide)))); decide)) rfl) ?_
    | refine CallE.mk _ _ (dtop_sim hx) ?_
    | refine CallE.mk _ _ (roGrid_at (e := dtop p - (m + 1) + 1) (mode := 0) (r := lo) hx (by first | assumption | (apply Ht.mono; (focus (repeat' (first | assumption | with_reducible apply Ht.add' | with_reducible apply Ht.sub' | with_reducible apply Ht.mul' | with_reducible apply Ht.neg | with_reducible apply Ht.abs | exact Ht.one | exact Ht.zero 0 | exact Ht.cst (by decide)))); decide)) (by rw [q2, u6])) ?_
    | refine CallE.mk _ _ (roTo_is (q := p) (p := 0) (r := r1) (mode := 1) hx (by first | assumption | (apply Ht.mono; (focus (repeat' (first | assumption | with_reducible apply Ht.add' | with_reducible apply Ht.sub' | with_reducible apply Ht.mul' | with_reducible apply Ht.neg | with_reducible apply Ht.abs | exact Ht.one | exact Ht.zero 0 | exact Ht.cst (by decide)))); decide)) u7) ?_
    | refine CallE.mk _ _ (roTo_is (q := p) (p := 1) (r := r1) (mode := 1) hx (by first | assumption | (apply Ht.mono; (focus (repeat' (first | assumption | with_reducible apply Ht.add' | with_reducible apply Ht.sub' | with_reducible apply Ht.mul' | with_reducible apply Ht.neg | with_reducible apply Ht.abs | exact Ht.one | exact Ht.zero 0 | exact Ht.cst (by decide)))); decide)) hr1) ?_
    | refine CallE.mk _ _ (dsame_at (p := r1) (q := r1) (.of (by first | assumption | (apply Ht.mono; (focus (repeat' (first | assumption | with_reducible apply Ht.add' | with_reducible apply Ht.sub' | with_reducible apply Ht.mul' | with_reducible apply Ht.neg | with_reducible apply Ht.abs | exact Ht.one | exact Ht.zero 0 | exact Ht.cst (by decide)))); decide))) (.of (by first | assumption | (apply Ht.mono; (focus (repeat' (first | assumption | with_reducible apply Ht.add' | with_reducible apply Ht.sub' | with_reducible apply Ht.mul' | with_reducible apply Ht.neg | with_reducible apply Ht.abs | exact Ht.one | exact Ht.zero 0 | exact Ht.cst (by decide)))); decide))) (by first | assumption | (apply Ht.mono; (focus (repeat' (first | assumption | with_reducible apply Ht.add' | with_reducible apply Ht.sub' | with_reducible apply Ht.mul' | with_reducible apply Ht.neg | with_reducible apply Ht.abs | exact Ht.one | exact Ht.zero 0 | exact Ht.cst (by decide)))); decide)) rfl) ?_
    | refine Cd.mk (show regOk _ _ _ _ = true by kernel_rfl) ?_
    | refine Cd.mk rfl ?_
    | refine Br.t ?_
    | refine Br.f ?_
    | with_reducible refine Br.eqd ?_
    | with_reducible refine Br.eqb ?_
    | with_reducible refine Br.dec (fun _ => ?_) (fun _ => ?_)
    | with_reducible refine Br.ndec (fun _ => ?_) (fun _ => ?_)
    | refine Br.mk (fun _ => ?_) (fun _ => ?_)
    | refine NthE.mk _ rfl ?_
    | refine And.intro (fun _ => ?_) ?_
    | refine TkE.mk _ rfl rfl ?_
    | refine Res.mk ?_
    | refine DsE.mk [] rfl ?_
    | refine LoopEnd.go _ _ ⟨.inl rfl, rfl, rfl, by first | rfl | (repeat first | exact all_nil _ | refine all_la _ _ _ _ _ ?_)⟩ ?_
    | ((with_reducible refine EqE.idW ?_); first  | with_reducible refine EqE.mk _ (n_i64 _ (by omega)) ?_ | with_reducible refine EqE.mk _ (n_succ _ (by omega)) ?_ | refine EqE.mk _ (wrap_in (by omega) (by omega)) ?_ | refine EqE.mk _ rfl ?_)
    | ((with_reducible refine EqE.idM ?_); first  | refine EqE.mk _ rfl ?_)
    | ((with_reducible refine EqE.idI ?_); first  | refine EqE.mk _ (max_eq _ _) ?_ | refine EqE.mk _ (min_eq _ _) ?_)
    | ((with_reducible refine EqE.idS ?_); first  | refine EqE.mk _ rfl ?_)
    | ((with_reducible refine EqE.idL ?_); first  | refine EqE.mk _ (sl_own _ _ _ _ (by omega) (by omega) rfl) ?_ | refine EqE.mk _ rfl ?_)
    | refine EqE.mk _ rfl ?_
    | refine Cd.mk (Nat.le_of_ble_eq_true rfl) ?_
    | refine Cd.mk ⟨rfl, rfl⟩ ?_
    | refine Cd.mk (by first | omega | (simp only [length_limbs, length_la]; omega)) ?_
    | refine Cd.mk ?_ ?_)
  all_goals rfl
end Go.Ev.Ar
