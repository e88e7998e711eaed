/- Contracts of the given functions, on data. Conditions stand in each theorem. -/
import Derived.Test.YtmgbegcamhkblaaDoorArRRo
set_option linter.unusedSimpArgs false
set_option linter.unusedVariables false
namespace Go.Ev.Ar
open Go Go.Ev Go.Proofs

theorem few5_sim (b : Bool) (l : List UInt32) (e : Int) : Sim Tryd.prog G0 true 73 [.agg [.bool b, sl l, .int .i64 e]] (.bool (fewD 20 2000 l e)) := by
  refine sim_mk tab_ok Tryd.func73 rfl (by kernel_rfl) rfl (Nat.le_of_ble_eq_true rfl) ?_
  repeat' ((conv => whnf); first
    | refine Cd.mk (show regOk _ _ _ _ = true by kernel_rfl) ?_
    | refine Cd.mk rfl ?_
    | refine Br.t ?_
    | refine Br.f ?_
    | with_reducible refine Br.eqd ?_
    | with_reducible refine Br.eqb ?_
    | with_reducible refine Br.dec (fun _ => ?_) (fun _ => ?_)
    | with_reducible refine Br.ndec (fun _ => ?_) (fun _ => ?_)
    | refine Br.mk (fun _ => ?_) (fun _ => ?_)
    | refine NthE.mk _ rfl ?_
    | refine And.intro (fun _ => ?_) ?_
    | refine TkE.mk _ rfl rfl ?_
    | refine Res.mk ?_
    | refine DsE.mk [] rfl ?_
    | refine LoopEnd.go _ _ ⟨.inl rfl, rfl, rfl, by first | rfl | (repeat first | exact all_nil _ | refine all_la _ _ _ _ _ ?_)⟩ ?_
    | ((with_reducible refine EqE.idW ?_); first  | with_reducible refine EqE.mk _ (n_i64 _ (by omega)) ?_ | with_reducible refine EqE.mk _ (n_succ _ (by omega)) ?_ | refine EqE.mk _ (wrap_in (by omega) (by omega)) ?_ | refine EqE.mk _ rfl ?_)
    | ((with_reducible refine EqE.idM ?_); first  | refine EqE.mk _ rfl ?_)
    | ((with_reducible refine EqE.idI ?_); first  | refine EqE.mk _ (max_eq _ _) ?_ | refine EqE.mk _ (min_eq _ _) ?_)
    | ((with_reducible refine EqE.idS ?_); first  | refine EqE.mk _ rfl ?_)
    | ((with_reducible refine EqE.idL ?_); first  | refine EqE.mk _ (sl_own _ _ _ _ (by omega) (by omega) rfl) ?_ | refine EqE.mk _ rfl ?_)
    | refine EqE.mk _ rfl ?_
    | refine Cd.mk (Nat.le_of_ble_eq_true rfl) ?_
    | refine Cd.mk ⟨rfl, rfl⟩ ?_
    | refine Cd.mk (by first | omega | (simp only [length_limbs, length_la]; omega)) ?_
    | refine Cd.mk ?_ ?_)
  · rename_i h1 h2
    show D.bool _ = D.bool _
    congr 1
    unfold fewD
    rw [decide_eq_true (show l.length ≤ 20 by omega), decide_eq_true (show -2000 ≤ e by omega)]; rfl
  · rename_i h1 h2
    show D.bool _ = D.bool _
    rw [fewD_false (by omega)]
  · rename_i h1
    show D.bool _ = D.bool _
    rw [fewD_false (by omega)]
theorem roTo_at {x : D} {q r : Dyadic} {p mode : Int} (hx : DyR x q) (hq : Ht 100000 q) (h : rto q p mode = r) : Sim Tryd.prog G0 false 74 [x, .int .i64 p, .int .i64 mode] (dyD r) := h ▸ roTo_sim p mode hx hq
theorem roGrid_at {x : D} {q r : Dyadic} {e mode : Int} (hx : DyR x q) (hq : Ht 500000 q) (h : grd q (min (max e (-20000)) 20000) mode = r) : Sim Tryd.prog G0 false 76 [x, .int .i64 e, .int .i64 mode] (dyD r) := h ▸ roGrid_sim e mode hx hq
theorem roUlp_at {x : D} {q r : Dyadic} {p : Int} (hx : DyR x q) (hq : Ht 100000 q) (h : ulpD q p = r) : Sim Tryd.prog G0 false 78 [x, .int .i64 p] (dyD r) := h ▸ roUlp_sim p hx hq
theorem roFits_at {x : D} {q r : Dyadic} {p : Int} {b : Bool} (hx : DyR x q) (hq : Ht 100000 q) (h : rto q p 0 = r) (hr : Ht 500000 r) (hb : decide (r = q) = b) : Sim Tryd.prog G0 true 80 [x, .int .i64 p] (.bool b) := by
  subst h hb; exact roFits_sim p hx hq hr
theorem unit_bounds {q : Dyadic} {h : Nat} (hq : Ht h q) (p : Int) : -(h + 4000 : Int) ≤ unitE q p ∧ unitE q p ≤ 3 * h := by
  have := dtop_bounds hq
  unfold unitE; omega
theorem rto_ht {q : Dyadic} {h : Nat} (hq : Ht h q) (p mode : Int) : Ht (5 * h + 4065) (rto q p mode) := by
  have hu := unit_bounds hq p
  unfold rto
  split
  · exact Ht.zero _
  · exact (grd_ht (k := 3 * h + 4000) hq _ _ (by omega) (by omega)).mono (by omega)
theorem ulp_ht {q : Dyadic} {h : Nat} (hq : Ht h q) (p : Int) : Ht (3 * h + 4001) (ulpD q p) := by
  have hu := unit_bounds hq p
  unfold ulpD
  split
  · exact Ht.zero _
  · exact (Ht.scl (3 * h + 4000) (by omega) (by omega)).mono (by omega)
abbrev k5 : Dyadic := dof 5 0
theorem known5_sim : Sim Tryd.prog G0 true 72 [] (.bool true) := by
  refine sim_mk tab_ok Tryd.func72 rfl (by kernel_rfl) rfl (Nat.le_of_ble_eq_true rfl) ?_
  repeat' ((conv => whnf); first
    | refine CallE.mk _ _ (rofd_sim _ (by decide) (by decide)) ?_
    | refine CallE.mk _ _ (roTo_at (q := k5) (p := 2) (mode := 1) (r := dof 6 0) (.of (by first | assumption | (apply Ht.mono; (focus (repeat' (first | assumption | with_reducible apply Ht.add' | with_reducible apply Ht.sub' | with_reducible apply Ht.mul' | with_reducible apply Ht.neg | with_reducible apply Ht.abs | exact Ht.one | exact Ht.zero 0 | exact Ht.cst (by decide)))); decide))) (by first | assumption | (apply Ht.mono; (focus (repeat' (first | assumption | with_reducible apply Ht.add' | with_reducible apply Ht.sub' | with_reducible apply Ht.mul' | with_reducible apply Ht.neg | with_reducible apply Ht.abs | exact Ht.one | exact Ht.zero 0 | exact Ht.cst (by decide)))); decide)) (by decide)) ?_
    | refine CallE.mk _ _ (roTo_at (q := k5) (p := 2) (mode := 0) (r := dof 4 0) (.of (by first | assumption | (apply Ht.mono; (focus (repeat' (first | assumption | with_reducible apply Ht.add' | with_reducible apply Ht.sub' | with_reducible apply Ht.mul' | with_reducible apply Ht.neg | with_reducible apply Ht.abs | exact Ht.one | exact Ht.zero 0 | exact Ht.cst (by decide)))); decide))) (by first | assumption | (apply Ht.mono; (focus (repeat' (first | assumption | with_reducible apply Ht.add' | with_reducible apply Ht.sub' | with_reducible apply Ht.mul' | with_reducible apply Ht.neg | with_reducible apply Ht.abs | exact Ht.one | exact Ht.zero 0 | exact Ht.cst (by decide)))); decide)) (by decide)) ?_
    | refine CallE.mk _ _ (roTo_at (q := k5) (p := 2) (mode := 2) (r := dof 4 0) (.of (by first | assumption | (apply Ht.mono; (focus (repeat' (first | assumption | with_reducible apply Ht.add' | with_reducible apply Ht.sub' | with_reducible apply Ht.mul' | with_reducible apply Ht.neg | with_reducible apply Ht.abs | exact Ht.one | exact Ht.zero 0 | exact Ht.cst (by decide)))); decide))) (by first | assumption | (apply Ht.mono; (focus (repeat' (first | assumption | with_reducible apply Ht.add' | with_reducible apply Ht.sub' | with_reducible apply Ht.mul' | with_reducible apply Ht.neg | with_reducible apply Ht.abs | exact Ht.one | exact Ht.zero 0 | exact Ht.cst (by decide)))); decide)) (by decide)) ?_
    | refine CallE.mk _ _ (roUlp_at (q := k5) (p := 2) (r := dof 2 0) (.of (by first | assumption | (apply Ht.mono; (focus (repeat' (first | assumption | with_reducible apply Ht.add' | with_reducible apply Ht.sub' | with_reducible apply Ht.mul' | with_reducible apply Ht.neg | with_reducible apply Ht.abs | exact Ht.one | exact Ht.zero 0 | exact Ht.cst (by decide)))); decide))) (by first | assumption | (apply Ht.mono; (focus (repeat' (first | assumption | with_reducible apply Ht.add' | with_reducible apply Ht.sub' | with_reducible apply Ht.mul' | with_reducible apply Ht.neg | with_reducible apply Ht.abs | exact Ht.one | exact Ht.zero 0 | exact Ht.cst (by decide)))); decide)) (by decide)) ?_
    | refine CallE.mk _ _ (roFits_at (q := k5) (p := 3) (r := k5) (b := true) (.of (by first | assumption | (apply Ht.mono; (focus (repeat' (first | assumption | with_reducible apply Ht.add' | with_reducible apply Ht.sub' | with_reducible apply Ht.mul' | with_reducible apply Ht.neg | with_reducible apply Ht.abs | exact Ht.one | exact Ht.zero 0 | exact Ht.cst (by decide)))); decide))) (by first | assumption | (apply Ht.mono; (focus (repeat' (first | assumption | with_reducible apply Ht.add' | with_reducible apply Ht.sub' | with_reducible apply Ht.mul' | with_reducible apply Ht.neg | with_reducible apply Ht.abs | exact Ht.one | exact Ht.zero 0 | exact Ht.cst (by decide)))); decide)) (by decide) (by first | assumption | (apply Ht.mono; (focus (repeat' (first | assumption | with_reducible apply Ht.add' | with_reducible apply Ht.sub' | with_reducible apply Ht.mul' | with_reducible apply Ht.neg | with_reducible apply Ht.abs | exact Ht.one | exact Ht.zero 0 | exact Ht.cst (by decide)))); decide)) (by decide)) ?_
    | refine CallE.mk _ _ (roFits_at (q := k5) (p := 2) (r := dof 4 0) (b := false) (.of (by first | assumption | (apply Ht.mono; (focus (repeat' (first | assumption | with_reducible apply Ht.add' | with_reducible apply Ht.sub' | with_reducible apply Ht.mul' | with_reducible apply Ht.neg | with_reducible apply Ht.abs | exact Ht.one | exact Ht.zero 0 | exact Ht.cst (by decide)))); decide))) (by first | assumption | (apply Ht.mono; (focus (repeat' (first | assumption | with_reducible apply Ht.add' | with_reducible apply Ht.sub' | with_reducible apply Ht.mul' | with_reducible apply Ht.neg | with_reducible apply Ht.abs | exact Ht.one | exact Ht.zero 0 | exact Ht.cst (by decide)))); decide)) (by decide) (by first | assumption | (apply Ht.mono; (focus (repeat' (first | assumption | with_reducible apply Ht.add' | with_reducible apply Ht.sub' | with_reducible apply Ht.mul' | with_reducible apply Ht.neg | with_reducible apply Ht.abs | exact Ht.one | exact Ht.zero 0 | exact Ht.cst (by decide)))); decide)) (by decide)) ?_
    | refine CallE.mk _ _ (roGrid_at (q := k5) (e := 2) (mode := 1) (r := dof 8 0) (.of (by first | assumption | (apply Ht.mono; (focus (repeat' (first | assumption | with_reducible apply Ht.add' | with_reducible apply Ht.sub' | with_reducible apply Ht.mul' | with_reducible apply Ht.neg | with_reducible apply Ht.abs | exact Ht.one | exact Ht.zero 0 | exact Ht.cst (by decide)))); decide))) (by first | assumption | (apply Ht.mono; (focus (repeat' (first | assumption | with_reducible apply Ht.add' | with_reducible apply Ht.sub' | with_reducible apply Ht.mul' | with_reducible apply Ht.neg | with_reducible apply Ht.abs | exact Ht.one | exact Ht.zero 0 | exact Ht.cst (by decide)))); decide)) (by decide)) ?_
    | refine CallE.mk _ _ (dsame_at (p := dof 6 0) (q := dof 6 0) (.of (by first | assumption | (apply Ht.mono; (focus (repeat' (first | assumption | with_reducible apply Ht.add' | with_reducible apply Ht.sub' | with_reducible apply Ht.mul' | with_reducible apply Ht.neg | with_reducible apply Ht.abs | exact Ht.one | exact Ht.zero 0 | exact Ht.cst (by decide)))); decide))) (.of (by first | assumption | (apply Ht.mono; (focus (repeat' (first | assumption | with_reducible apply Ht.add' | with_reducible apply Ht.sub' | with_reducible apply Ht.mul' | with_reducible apply Ht.neg | with_reducible apply Ht.abs | exact Ht.one | exact Ht.zero 0 | exact Ht.cst (by decide)))); decide))) (by first | assumption | (apply Ht.mono; (focus (repeat' (first | assumption | with_reducible apply Ht.add' | with_reducible apply Ht.sub' | with_reducible apply Ht.mul' | with_reducible apply Ht.neg | with_reducible apply Ht.abs | exact Ht.one | exact Ht.zero 0 | exact Ht.cst (by decide)))); decide)) rfl) ?_
    | refine CallE.mk _ _ (dsame_at (p := dof 4 0) (q := dof 4 0) (.of (by first | assumption | (apply Ht.mono; (focus (repeat' (first | assumption | with_reducible apply Ht.add' | with_reducible apply Ht.sub' | with_reducible apply Ht.mul' | with_reducible apply Ht.neg | with_reducible apply Ht.abs | exact Ht.one | exact Ht.zero 0 | exact Ht.cst (by decide)))); decide))) (.of (by first | assumption | (apply Ht.mono; (focus (repeat' (first | assumption | with_reducible apply Ht.add' | with_reducible apply Ht.sub' | with_reducible apply Ht.mul' | with_reducible apply Ht.neg | with_reducible apply Ht.abs | exact Ht.one | exact Ht.zero 0 | exact Ht.cst (by decide)))); decide))) (by first | assumption | (apply Ht.mono; (focus (repeat' (first | assumption | with_reducible apply Ht.add' | with_reducible apply Ht.sub' | with_reducible apply Ht.mul' | with_reducible apply Ht.neg | with_reducible apply Ht.abs | exact Ht.one | exact Ht.zero 0 | exact Ht.cst (by decide)))); decide)) rfl) ?_
    | refine CallE.mk _ _ (dsame_at (p := dof 2 0) (q := dof 2 0) (.of (by first | assumption | (apply Ht.mono; (focus (repeat' (first | assumption | with_reducible apply Ht.add' | with_reducible apply Ht.sub' | with_reducible apply Ht.mul' | with_reducible apply Ht.neg | with_reducible apply Ht.abs | exact Ht.one | exact Ht.zero 0 | exact Ht.cst (by decide)))); decide))) (.of (by first | assumption | (apply Ht.mono; (focus (repeat' (first | assumption | with_reducible apply Ht.add' | with_reducible apply Ht.sub' | with_reducible apply Ht.mul' | with_reducible apply Ht.neg | with_reducible apply Ht.abs | exact Ht.one | exact Ht.zero 0 | exact Ht.cst (by decide)))); decide))) (by first | assumption | (apply Ht.mono; (focus (repeat' (first | assumption | with_reducible apply Ht.add' | with_reducible apply Ht.sub' | with_reducible apply Ht.mul' | with_reducible apply Ht.neg | with_reducible apply Ht.abs | exact Ht.one | exact Ht.zero 0 | exact Ht.cst (by decide)))); decide)) rfl) ?_
    | refine CallE.mk _ _ (dsame_at (p := dof 8 0) (q := dof 8 0) (.of (by first | assumption | (apply Ht.mono; (focus (repeat' (first | assumption | with_reducible apply Ht.add' | with_reducible apply Ht.sub' | with_reducible apply Ht.mul' | with_reducible apply Ht.neg | with_reducible apply Ht.abs | exact Ht.one | exact Ht.zero 0 | exact Ht.cst (by decide)))); decide))) (.of (by first | assumption | (apply Ht.mono; (focus (repeat' (first | assumption | with_reducible apply Ht.add' | with_reducible apply Ht.sub' | with_reducible apply Ht.mul' | with_reducible apply Ht.neg | with_reducible apply Ht.abs | exact Ht.one | exact Ht.zero 0 | exact Ht.cst (by decide)))); decide))) (by first | assumption | (apply Ht.mono; (focus (repeat' (first | assumption | with_reducible apply Ht.add' | with_reducible apply Ht.sub' | with_reducible apply Ht.mul' | with_reducible apply Ht.neg | with_reducible apply Ht.abs | exact Ht.one | exact Ht.zero 0 | exact Ht.cst (by decide)))); decide)) rfl) ?_
    | refine Cd.mk (show regOk _ _ _ _ = true by kernel_rfl) ?_
    | refine Cd.mk rfl ?_
    | refine Br.t ?_
    | refine Br.f ?_
    | with_reducible refine Br.eqd ?_
    | with_reducible refine Br.eqb ?_
    | with_reducible refine Br.dec (fun _ => ?_) (fun _ => ?_)
    | with_reducible refine Br.ndec (fun _ => ?_) (fun _ => ?_)
    | refine Br.mk (fun _ => ?_) (fun _ => ?_)
    | refine NthE.mk _ rfl ?_
    | refine And.intro (fun _ => ?_) ?_
    | refine TkE.mk _ rfl rfl ?_
    | refine Res.mk ?_
    | refine DsE.mk [] rfl ?_
    | refine LoopEnd.go _ _ ⟨.inl rfl, rfl, rfl, by first | rfl | (repeat first | exact all_nil _ | refine all_la _ _ _ _ _ ?_)⟩ ?_
    | ((with_reducible refine EqE.idW ?_); first  | with_reducible refine EqE.mk _ (n_i64 _ (by omega)) ?_ | with_reducible refine EqE.mk _ (n_succ _ (by omega)) ?_ | refine EqE.mk _ (wrap_in (by omega) (by omega)) ?_ | refine EqE.mk _ rfl ?_)
    | ((with_reducible refine EqE.idM ?_); first  | refine EqE.mk _ rfl ?_)
    | ((with_reducible refine EqE.idI ?_); first  | refine EqE.mk _ (max_eq _ _) ?_ | refine EqE.mk _ (min_eq _ _) ?_)
    | ((with_reducible refine EqE.idS ?_); first  | refine EqE.mk _ rfl ?_)
    | ((with_reducible refine EqE.idL ?_); first  | refine EqE.mk _ (sl_own _ _ _ _ (by omega) (by omega) rfl) ?_ | refine EqE.mk _ rfl ?_)
    | refine EqE.mk _ rfl ?_
    | refine Cd.mk (Nat.le_of_ble_eq_true rfl) ?_
    | refine Cd.mk ⟨rfl, rfl⟩ ?_
    | refine Cd.mk (by first | omega | (simp only [length_limbs, length_la]; omega)) ?_
    | refine Cd.mk ?_ ?_)
  rfl
set_option maxHeartbeats 4000000 in
theorem roundtells_sim (b : Bool) (l : List UInt32) (e : Int) (n f m : Int) : Sim Tryd.prog G0 true 13 [.agg [.bool b, sl l, .int .i64 e], .int .i64 n, .int .i64 f, .int .i64 m] (.bool true) := by
  have s1 := few5_sim b l e
  refine sim_mk tab_ok Tryd.func13 rfl (by kernel_rfl) rfl (Nat.le_of_ble_eq_true rfl) ?_
  cases g1 : fewD 20 2000 l e
  · rw [g1] at s1
    repeat' ((conv => whnf); first
      | refine CallE.mk _ _ (known5_sim) ?_
      | refine CallE.mk _ _ (s1) ?_
      | refine Cd.mk (show regOk _ _ _ _ = true by kernel_rfl) ?_
      | refine Cd.mk rfl ?_
      | refine Br.t ?_
      | refine Br.f ?_
      | with_reducible refine Br.eqd ?_
      | with_reducible refine Br.eqb ?_
      | with_reducible refine Br.dec (fun _ => ?_) (fun _ => ?_)
      | with_reducible refine Br.ndec (fun _ => ?_) (fun _ => ?_)
      | refine Br.mk (fun _ => ?_) (fun _ => ?_)
      | refine NthE.mk _ rfl ?_
      | refine And.intro (fun _ => ?_) ?_
      | refine TkE.mk _ rfl rfl ?_
      | refine Res.mk ?_
      | refine DsE.mk [] rfl ?_
      | refine LoopEnd.go _ _ ⟨.inl rfl, rfl, rfl, by first | rfl | (repeat first | exact all_nil _ | refine all_la _ _ _ _ _ ?_)⟩ ?_
      | ((with_reducible refine EqE.idW ?_); first  | with_reducible refine EqE.mk _ (n_i64 _ (by omega)) ?_ | with_reducible refine EqE.mk _ (n_succ _ (by omega)) ?_ | refine EqE.mk _ (wrap_in (by omega) (by omega)) ?_ | refine EqE.mk _ rfl ?_)
      | ((with_reducible refine EqE.idM ?_); first  | refine EqE.mk _ rfl ?_)
      | ((with_reducible refine EqE.idI ?_); first  | refine EqE.mk _ (max_eq _ _) ?_ | refine EqE.mk _ (min_eq _ _) ?_)
      | ((with_reducible refine EqE.idS ?_); first  | refine EqE.mk _ rfl ?_)
      | ((with_reducible refine EqE.idL ?_); first  | refine EqE.mk _ (sl_own _ _ _ _ (by omega) (by omega) rfl) ?_ | refine EqE.mk _ rfl ?_)
      | refine EqE.mk _ rfl ?_
      | refine Cd.mk (Nat.le_of_ble_eq_true rfl) ?_
      | refine Cd.mk ⟨rfl, rfl⟩ ?_
      | refine Cd.mk (by first | omega | (simp only [length_limbs, length_la]; omega)) ?_
      | refine Cd.mk ?_ ?_)
    rfl
  rw [g1] at s1
  obtain ⟨hx, hp, zx, zp, ex, lx⟩ := few_dy (b := b) g1
  generalize dof (zv b l) e = p at *
  have h1 : Ht 18000 (rto p n m) := (rto_ht hp n m).mono (by decide)
  have h2 : Ht 18000 (rto p n 0) := (rto_ht hp n 0).mono (by decide)
  have h3 : Ht 30000 (grd p (min (max (max (-4000) (min f 4000)) (-20000)) 20000) m) := (grd_ht (k := 20000) hp _ m (by omega) (by omega)).mono (by decide)
  have h4 : Ht 18000 (ulpD p n) := (ulp_ht hp n).mono (by decide)
  repeat' ((conv => whnf); first
    | refine CallE.mk _ _ (known5_sim) ?_
    | refine CallE.mk _ _ (s1) ?_
    | refine CallE.mk _ _ (rmake_at zx (zp.mono (by decide)) ex) ?_
    | refine CallE.mk _ _ (roTo_sim _ _ hx (by first | assumption | (apply Ht.mono; (focus (repeat' (first | assumption | with_reducible apply Ht.add' | with_reducible apply Ht.sub' | with_reducible apply Ht.mul' | with_reducible apply Ht.neg | with_reducible apply Ht.abs | exact Ht.one | exact Ht.zero 0 | exact Ht.cst (by decide)))); decide))) ?_
    | refine CallE.mk _ _ (rTo_sim (q := p) _ _ (by first | assumption | (apply Ht.mono; (focus (repeat' (first | assumption | with_reducible apply Ht.add' | with_reducible apply Ht.sub' | with_reducible apply Ht.mul' | with_reducible apply Ht.neg | with_reducible apply Ht.abs | exact Ht.one | exact Ht.zero 0 | exact Ht.cst (by decide)))); decide))) ?_
    | refine CallE.mk _ _ (requal_at (by first | assumption | (apply Ht.mono; (focus (repeat' (first | assumption | with_reducible apply Ht.add' | with_reducible apply Ht.sub' | with_reducible apply Ht.mul' | with_reducible apply Ht.neg | with_reducible apply Ht.abs | exact Ht.one | exact Ht.zero 0 | exact Ht.cst (by decide)))); decide))) ?_
    | refine CallE.mk _ _ (roGrid_sim _ _ hx (by first | assumption | (apply Ht.mono; (focus (repeat' (first | assumption | with_reducible apply Ht.add' | with_reducible apply Ht.sub' | with_reducible apply Ht.mul' | with_reducible apply Ht.neg | with_reducible apply Ht.abs | exact Ht.one | exact Ht.zero 0 | exact Ht.cst (by decide)))); decide))) ?_
    | refine CallE.mk _ _ (rGrid_sim (q := p) _ _ (by first | assumption | (apply Ht.mono; (focus (repeat' (first | assumption | with_reducible apply Ht.add' | with_reducible apply Ht.sub' | with_reducible apply Ht.mul' | with_reducible apply Ht.neg | with_reducible apply Ht.abs | exact Ht.one | exact Ht.zero 0 | exact Ht.cst (by decide)))); decide))) ?_
    | refine CallE.mk _ _ (roUlp_sim _ hx (by first | assumption | (apply Ht.mono; (focus (repeat' (first | assumption | with_reducible apply Ht.add' | with_reducible apply Ht.sub' | with_reducible apply Ht.mul' | with_reducible apply Ht.neg | with_reducible apply Ht.abs | exact Ht.one | exact Ht.zero 0 | exact Ht.cst (by decide)))); decide))) ?_
    | refine CallE.mk _ _ (rUlp_sim (q := p) _ (by first | assumption | (apply Ht.mono; (focus (repeat' (first | assumption | with_reducible apply Ht.add' | with_reducible apply Ht.sub' | with_reducible apply Ht.mul' | with_reducible apply Ht.neg | with_reducible apply Ht.abs | exact Ht.one | exact Ht.zero 0 | exact Ht.cst (by decide)))); decide))) ?_
    | refine CallE.mk _ _ (roFits_sim _ hx (by first | assumption | (apply Ht.mono; (focus (repeat' (first | assumption | with_reducible apply Ht.add' | with_reducible apply Ht.sub' | with_reducible apply Ht.mul' | with_reducible apply Ht.neg | with_reducible apply Ht.abs | exact Ht.one | exact Ht.zero 0 | exact Ht.cst (by decide)))); decide)) (by first | assumption | (apply Ht.mono; (focus (repeat' (first | assumption | with_reducible apply Ht.add' | with_reducible apply Ht.sub' | with_reducible apply Ht.mul' | with_reducible apply Ht.neg | with_reducible apply Ht.abs | exact Ht.one | exact Ht.zero 0 | exact Ht.cst (by decide)))); decide))) ?_
    | refine CallE.mk _ _ (requal_sim (p := rto p n 0) (q := p) (by first | assumption | (apply Ht.mono; (focus (repeat' (first | assumption | with_reducible apply Ht.add' | with_reducible apply Ht.sub' | with_reducible apply Ht.mul' | with_reducible apply Ht.neg | with_reducible apply Ht.abs | exact Ht.one | exact Ht.zero 0 | exact Ht.cst (by decide)))); decide)) (by first | assumption | (apply Ht.mono; (focus (repeat' (first | assumption | with_reducible apply Ht.add' | with_reducible apply Ht.sub' | with_reducible apply Ht.mul' | with_reducible apply Ht.neg | with_reducible apply Ht.abs | exact Ht.one | exact Ht.zero 0 | exact Ht.cst (by decide)))); decide))) ?_
    | refine Cd.mk (show regOk _ _ _ _ = true by kernel_rfl) ?_
    | refine Cd.mk rfl ?_
    | refine Br.t ?_
    | refine Br.f ?_
    | with_reducible refine Br.eqd ?_
    | with_reducible refine Br.eqb ?_
    | with_reducible refine Br.dec (fun _ => ?_) (fun _ => ?_)
    | with_reducible refine Br.ndec (fun _ => ?_) (fun _ => ?_)
    | refine Br.mk (fun _ => ?_) (fun _ => ?_)
    | refine NthE.mk _ rfl ?_
    | refine And.intro (fun _ => ?_) ?_
    | refine TkE.mk _ rfl rfl ?_
    | refine Res.mk ?_
    | refine DsE.mk [] rfl ?_
    | refine LoopEnd.go _ _ ⟨.inl rfl, rfl, rfl, by first | rfl | (repeat first | exact all_nil _ | refine all_la _ _ _ _ _ ?_)⟩ ?_
    | ((with_reducible refine EqE.idW ?_); first  | with_reducible refine EqE.mk _ (n_i64 _ (by omega)) ?_ | with_reducible refine EqE.mk _ (n_succ _ (by omega)) ?_ | refine EqE.mk _ (wrap_in (by omega) (by omega)) ?_ | refine EqE.mk _ rfl ?_)
    | ((with_reducible refine EqE.idM ?_); first  | refine EqE.mk _ rfl ?_)
    | ((with_reducible refine EqE.idI ?_); first  | refine EqE.mk _ (max_eq _ _) ?_ | refine EqE.mk _ (min_eq _ _) ?_)
    | ((with_reducible refine EqE.idS ?_); first  | refine EqE.mk _ rfl ?_)
    | ((with_reducible refine EqE.idL ?_); first  | refine EqE.mk _ (sl_own _ _ _ _ (by omega) (by omega) rfl) ?_ | refine EqE.mk _ rfl ?_)
    | refine EqE.mk _ rfl ?_
    | refine Cd.mk (Nat.le_of_ble_eq_true rfl) ?_
    | refine Cd.mk ⟨rfl, rfl⟩ ?_
    | refine Cd.mk (by first | omega | (simp only [length_limbs, length_la]; omega)) ?_
    | refine Cd.mk ?_ ?_)
  show D.bool true = D.bool (decide (rto p n 0 = p) == decide (rto p n 0 = p))
  rw [beq_self_eq_true]
end Go.Ev.Ar
