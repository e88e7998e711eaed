/- Contracts of the given functions, on data. Conditions stand in each theorem. -/
import Derived.Test.YtmgbegcamhkblaaDoorArReal
set_option linter.unusedSimpArgs false
set_option linter.unusedVariables false
namespace Go.Ev.Ar
open Go Go.Ev Go.Proofs

/-- A rectangle, as it must be told. -/
def rcD (a b : Cq) : D := .agg [.bool (zneg (dman a.1)), sl (ofN (dman a.1).natAbs), .int .i64 (dexp a.1), .bool (zneg (dman a.2)), sl (ofN (dman a.2).natAbs), .int .i64 (dexp a.2), .bool (zneg (dman b.1)), sl (ofN (dman b.1).natAbs), .int .i64 (dexp b.1), .bool (zneg (dman b.2)), sl (ofN (dman b.2).natAbs), .int .i64 (dexp b.2)]
/-- Data that means two pairs of numbers. -/
inductive RcR : D → Cq → Cq → Prop where
  | mk {b : Bool} {l : List UInt32} {e : Int} {c : Bool} {k : List UInt32} {f : Int} {b' : Bool} {l' : List UInt32} {e' : Int} {c' : Bool} {k' : List UInt32} {f' : Int} {z w : Cq}
    (h1 : CxR (.agg [.bool b, sl l, .int .i64 e, .bool c, sl k, .int .i64 f]) z) (h2 : CxR (.agg [.bool b', sl l', .int .i64 e', .bool c', sl k', .int .i64 f']) w) :
    RcR (.agg [.bool b, sl l, .int .i64 e, .bool c, sl k, .int .i64 f, .bool b', sl l', .int .i64 e', .bool c', sl k', .int .i64 f']) z w
theorem RcR.of {a b : Cq} (h : Hc 1048576 a) (k : Hc 1048576 b) : RcR (rcD a b) a b := .mk (.of h) (.of k)

theorem rtHas_is {x y : D} {a b d : Cq} {t : Bool} (hx : RcR x a b) (hy : CxR y d) (ha : Hc 1000000 a) (hb : Hc 1000000 b) (hd : Hc 1000000 d) (h : decide (ihas (rof a) d.1 ∧ ihas (rof b) d.2) = t) : Sim Tryd.prog G0 true 146 [x, y] (.bool t) := by
  subst h
  obtain ⟨h1, h2⟩ := hx
  obtain ⟨h3, h4⟩ := hy
  have g1 := rlHas_is h1 h3 ha hd.1 rfl
  have g2 := rlHas_is h2 h4 hb hd.2 rfl
  refine sim_mk tab_ok Tryd.func146 rfl (by kernel_rfl) rfl ⟨Nat.le_of_ble_eq_true rfl, Nat.le_of_ble_eq_true rfl⟩ ?_
  repeat' ((conv => whnf); first
    | with_reducible refine CallX.data ?_
    | refine CallE.mk _ _ (g1) ?_
    | refine CallE.mk _ _ (g2) ?_
    | refine Cd.mk (show regOk _ _ _ _ = true by kernel_rfl) ?_
    | refine Cd.mk rfl ?_
    | refine Br.t ?_
    | refine Br.f ?_
    | with_reducible refine Br.eqd ?_
    | with_reducible refine Br.eqb ?_
    | with_reducible refine Br.dec (fun _ => ?_) (fun _ => ?_)
    | with_reducible refine Br.ndec (fun _ => ?_) (fun _ => ?_)
    | refine Br.mk (fun _ => ?_) (fun _ => ?_)
    | refine NthE.mk _ rfl ?_
    | refine And.intro (fun _ => ?_) ?_
    | (refine TkE.fL ?_; (conv => whnf); fail_if_success (show forceL _ _))
    | refine TkE.mk _ rfl rfl ?_
    | refine Res.mk ?_
    | refine DsE.mk [] rfl ?_
    | refine LoopEnd.go _ _ ⟨.inl rfl, rfl, rfl, by first | rfl | (repeat first | exact all_nil _ | refine all_la _ _ _ _ _ ?_)⟩ ?_
    | ((with_reducible refine EqE.idW ?_); first  | with_reducible refine EqE.mk _ (n_i64 _ (by omega)) ?_ | with_reducible refine EqE.mk _ (n_succ _ (by omega)) ?_ | refine EqE.mk _ (wrap_in (by omega) (by omega)) ?_ | refine EqE.mk _ rfl ?_)
    | ((with_reducible refine EqE.idM ?_); first  | refine EqE.mk _ rfl ?_)
    | ((with_reducible refine EqE.idI ?_); first  | refine EqE.mk _ (max_eq _ _) ?_ | refine EqE.mk _ (min_eq _ _) ?_)
    | ((with_reducible refine EqE.idS ?_); first  | (refine EqE.fL ?_; (conv => whnf); fail_if_success (show forceL _ _)) | refine EqE.mk _ rfl ?_)
    | ((with_reducible refine EqE.idL ?_); first  | refine EqE.mk _ (sl_own _ _ _ _ (by omega) (by omega) rfl) ?_ | refine EqE.mk _ rfl ?_)
    | refine EqE.mk _ rfl ?_
    | refine Cd.mk (Nat.le_of_ble_eq_true rfl) ?_
    | refine Cd.mk ⟨rfl, rfl⟩ ?_
    | refine Cd.mk (by first | omega | (simp only [length_limbs, length_la]; omega)) ?_
    | refine Cd.mk ?_ ?_)
  · rename_i h
    exact congrArg D.bool (decide_eq_decide.2 ⟨fun g => g.2, fun g => ⟨h, g⟩⟩)
  · rename_i h
    exact congrArg D.bool (decide_eq_false fun g => h g.1)
theorem rtIn_is {x y : D} {a b c d : Cq} {t : Bool} (hx : RcR x a b) (hy : RcR y c d) (ha : Hc 1000000 a) (hb : Hc 1000000 b) (hc : Hc 1000000 c) (hd : Hc 1000000 d) (h : decide (iin (rof a) (rof c) ∧ iin (rof b) (rof d)) = t) : Sim Tryd.prog G0 true 150 [x, y] (.bool t) := by
  subst h
  obtain ⟨h1, h2⟩ := hx
  obtain ⟨h3, h4⟩ := hy
  have g1 := rlIn_is h1 h3 ha hc rfl
  have g2 := rlIn_is h2 h4 hb hd rfl
  refine sim_mk tab_ok Tryd.func150 rfl (by kernel_rfl) rfl ⟨Nat.le_of_ble_eq_true rfl, Nat.le_of_ble_eq_true rfl⟩ ?_
  repeat' ((conv => whnf); first
    | with_reducible refine CallX.data ?_
    | refine CallE.mk _ _ (g1) ?_
    | refine CallE.mk _ _ (g2) ?_
    | refine Cd.mk (show regOk _ _ _ _ = true by kernel_rfl) ?_
    | refine Cd.mk rfl ?_
    | refine Br.t ?_
    | refine Br.f ?_
    | with_reducible refine Br.eqd ?_
    | with_reducible refine Br.eqb ?_
    | with_reducible refine Br.dec (fun _ => ?_) (fun _ => ?_)
    | with_reducible refine Br.ndec (fun _ => ?_) (fun _ => ?_)
    | refine Br.mk (fun _ => ?_) (fun _ => ?_)
    | refine NthE.mk _ rfl ?_
    | refine And.intro (fun _ => ?_) ?_
    | (refine TkE.fL ?_; (conv => whnf); fail_if_success (show forceL _ _))
    | refine TkE.mk _ rfl rfl ?_
    | refine Res.mk ?_
    | refine DsE.mk [] rfl ?_
    | refine LoopEnd.go _ _ ⟨.inl rfl, rfl, rfl, by first | rfl | (repeat first | exact all_nil _ | refine all_la _ _ _ _ _ ?_)⟩ ?_
    | ((with_reducible refine EqE.idW ?_); first  | with_reducible refine EqE.mk _ (n_i64 _ (by omega)) ?_ | with_reducible refine EqE.mk _ (n_succ _ (by omega)) ?_ | refine EqE.mk _ (wrap_in (by omega) (by omega)) ?_ | refine EqE.mk _ rfl ?_)
    | ((with_reducible refine EqE.idM ?_); first  | refine EqE.mk _ rfl ?_)
    | ((with_reducible refine EqE.idI ?_); first  | refine EqE.mk _ (max_eq _ _) ?_ | refine EqE.mk _ (min_eq _ _) ?_)
    | ((with_reducible refine EqE.idS ?_); first  | (refine EqE.fL ?_; (conv => whnf); fail_if_success (show forceL _ _)) | refine EqE.mk _ rfl ?_)
    | ((with_reducible refine EqE.idL ?_); first  | refine EqE.mk _ (sl_own _ _ _ _ (by omega) (by omega) rfl) ?_ | refine EqE.mk _ rfl ?_)
    | refine EqE.mk _ rfl ?_
    | refine Cd.mk (Nat.le_of_ble_eq_true rfl) ?_
    | refine Cd.mk ⟨rfl, rfl⟩ ?_
    | refine Cd.mk (by first | omega | (simp only [length_limbs, length_la]; omega)) ?_
    | refine Cd.mk ?_ ?_)
  · rename_i h
    exact congrArg D.bool (decide_eq_decide.2 ⟨fun g => g.2, fun g => ⟨h, g⟩⟩)
  · rename_i h
    exact congrArg D.bool (decide_eq_false fun g => h g.1)
/-- What two rectangles have in common. -/
def rmeet (a b c d : Cq) : Cq × Cq × Bool := if (imeet a c).2 && (imeet b d).2 then ((imeet a c).1, (imeet b d).1, true) else ((0, 0), (0, 0), false)
theorem rtMeet_is {x y : D} {a b c d r s : Cq} {t : Bool} (hx : RcR x a b) (hy : RcR y c d) (ha : Hc 1000000 a) (hb : Hc 1000000 b) (hc : Hc 1000000 c) (hd : Hc 1000000 d) (h : rmeet (rof a) (rof b) (rof c) (rof d) = (r, s, t)) : Sim Tryd.prog G0 false 151 [x, y] (.tup [rcD r s, .bool t]) := by
  obtain ⟨h1, h2⟩ := hx
  obtain ⟨h3, h4⟩ := hy
  unfold rmeet at h
  obtain ⟨⟨u, v⟩, hm⟩ : ∃ m, imeet (rof a) (rof c) = m := ⟨_, rfl⟩
  obtain ⟨⟨u', v'⟩, hm'⟩ : ∃ m, imeet (rof b) (rof d) = m := ⟨_, rfl⟩
  have g1 := rlMeet_is h1 h3 ha hc hm
  have g2 := rlMeet_is h2 h4 hb hd hm'
  rw [hm, hm'] at h
  dsimp only at h
  obtain ⟨p, q⟩ := u
  obtain ⟨p', q'⟩ := u'
  refine sim_mk tab_ok Tryd.func151 rfl (by kernel_rfl) rfl ⟨Nat.le_of_ble_eq_true rfl, Nat.le_of_ble_eq_true rfl⟩ ?_
  cases v
  · rw [Bool.false_and, if_neg (by decide)] at h; cases h
    repeat' ((conv => whnf); first
      | with_reducible refine CallX.data ?_
      | refine CallE.mk _ _ (g1) ?_
      | refine CallE.mk _ _ (g2) ?_
      | refine Cd.mk (show regOk _ _ _ _ = true by kernel_rfl) ?_
      | refine Cd.mk rfl ?_
      | refine Br.t ?_
      | refine Br.f ?_
      | with_reducible refine Br.eqd ?_
      | with_reducible refine Br.eqb ?_
      | with_reducible refine Br.dec (fun _ => ?_) (fun _ => ?_)
      | with_reducible refine Br.ndec (fun _ => ?_) (fun _ => ?_)
      | refine Br.mk (fun _ => ?_) (fun _ => ?_)
      | refine NthE.mk _ rfl ?_
      | refine And.intro (fun _ => ?_) ?_
      | (refine TkE.fL ?_; (conv => whnf); fail_if_success (show forceL _ _))
      | refine TkE.mk _ rfl rfl ?_
      | refine Res.mk ?_
      | refine DsE.mk [] rfl ?_
      | refine LoopEnd.go _ _ ⟨.inl rfl, rfl, rfl, by first | rfl | (repeat first | exact all_nil _ | refine all_la _ _ _ _ _ ?_)⟩ ?_
      | ((with_reducible refine EqE.idW ?_); first  | with_reducible refine EqE.mk _ (n_i64 _ (by omega)) ?_ | with_reducible refine EqE.mk _ (n_succ _ (by omega)) ?_ | refine EqE.mk _ (wrap_in (by omega) (by omega)) ?_ | refine EqE.mk _ rfl ?_)
      | ((with_reducible refine EqE.idM ?_); first  | refine EqE.mk _ rfl ?_)
      | ((with_reducible refine EqE.idI ?_); first  | refine EqE.mk _ (max_eq _ _) ?_ | refine EqE.mk _ (min_eq _ _) ?_)
      | ((with_reducible refine EqE.idS ?_); first  | (refine EqE.fL ?_; (conv => whnf); fail_if_success (show forceL _ _)) | refine EqE.mk _ rfl ?_)
      | ((with_reducible refine EqE.idL ?_); first  | refine EqE.mk _ (sl_own _ _ _ _ (by omega) (by omega) rfl) ?_ | refine EqE.mk _ rfl ?_)
      | refine EqE.mk _ rfl ?_
      | refine Cd.mk (Nat.le_of_ble_eq_true rfl) ?_
      | refine Cd.mk ⟨rfl, rfl⟩ ?_
      | refine Cd.mk (by first | omega | (simp only [length_limbs, length_la]; omega)) ?_
      | refine Cd.mk ?_ ?_)
    show _ = D.tup [D.agg [.bool _, sl [], .int .i64 _, .bool _, sl [], .int .i64 _, .bool _, sl [], .int .i64 _, .bool _, sl [], .int .i64 _], _]
    rw [← ofN_zero]; rfl
  · cases v'
    · rw [Bool.and_false, if_neg (by decide)] at h; cases h
      repeat' ((conv => whnf); first
        | with_reducible refine CallX.data ?_
        | refine CallE.mk _ _ (g1) ?_
        | refine CallE.mk _ _ (g2) ?_
        | refine Cd.mk (show regOk _ _ _ _ = true by kernel_rfl) ?_
        | refine Cd.mk rfl ?_
        | refine Br.t ?_
        | refine Br.f ?_
        | with_reducible refine Br.eqd ?_
        | with_reducible refine Br.eqb ?_
        | with_reducible refine Br.dec (fun _ => ?_) (fun _ => ?_)
        | with_reducible refine Br.ndec (fun _ => ?_) (fun _ => ?_)
        | refine Br.mk (fun _ => ?_) (fun _ => ?_)
        | refine NthE.mk _ rfl ?_
        | refine And.intro (fun _ => ?_) ?_
        | (refine TkE.fL ?_; (conv => whnf); fail_if_success (show forceL _ _))
        | refine TkE.mk _ rfl rfl ?_
        | refine Res.mk ?_
        | refine DsE.mk [] rfl ?_
        | refine LoopEnd.go _ _ ⟨.inl rfl, rfl, rfl, by first | rfl | (repeat first | exact all_nil _ | refine all_la _ _ _ _ _ ?_)⟩ ?_
        | ((with_reducible refine EqE.idW ?_); first  | with_reducible refine EqE.mk _ (n_i64 _ (by omega)) ?_ | with_reducible refine EqE.mk _ (n_succ _ (by omega)) ?_ | refine EqE.mk _ (wrap_in (by omega) (by omega)) ?_ | refine EqE.mk _ rfl ?_)
        | ((with_reducible refine EqE.idM ?_); first  | refine EqE.mk _ rfl ?_)
        | ((with_reducible refine EqE.idI ?_); first  | refine EqE.mk _ (max_eq _ _) ?_ | refine EqE.mk _ (min_eq _ _) ?_)
        | ((with_reducible refine EqE.idS ?_); first  | (refine EqE.fL ?_; (conv => whnf); fail_if_success (show forceL _ _)) | refine EqE.mk _ rfl ?_)
        | ((with_reducible refine EqE.idL ?_); first  | refine EqE.mk _ (sl_own _ _ _ _ (by omega) (by omega) rfl) ?_ | refine EqE.mk _ rfl ?_)
        | refine EqE.mk _ rfl ?_
        | refine Cd.mk (Nat.le_of_ble_eq_true rfl) ?_
        | refine Cd.mk ⟨rfl, rfl⟩ ?_
        | refine Cd.mk (by first | omega | (simp only [length_limbs, length_la]; omega)) ?_
        | refine Cd.mk ?_ ?_)
      show _ = D.tup [D.agg [.bool _, sl [], .int .i64 _, .bool _, sl [], .int .i64 _, .bool _, sl [], .int .i64 _, .bool _, sl [], .int .i64 _], _]
      rw [← ofN_zero]; rfl
    · rw [Bool.and_true, if_pos rfl] at h; cases h
      repeat' ((conv => whnf); first
        | with_reducible refine CallX.data ?_
        | refine CallE.mk _ _ (g1) ?_
        | refine CallE.mk _ _ (g2) ?_
        | refine Cd.mk (show regOk _ _ _ _ = true by kernel_rfl) ?_
        | refine Cd.mk rfl ?_
        | refine Br.t ?_
        | refine Br.f ?_
        | with_reducible refine Br.eqd ?_
        | with_reducible refine Br.eqb ?_
        | with_reducible refine Br.dec (fun _ => ?_) (fun _ => ?_)
        | with_reducible refine Br.ndec (fun _ => ?_) (fun _ => ?_)
        | refine Br.mk (fun _ => ?_) (fun _ => ?_)
        | refine NthE.mk _ rfl ?_
        | refine And.intro (fun _ => ?_) ?_
        | (refine TkE.fL ?_; (conv => whnf); fail_if_success (show forceL _ _))
        | refine TkE.mk _ rfl rfl ?_
        | refine Res.mk ?_
        | refine DsE.mk [] rfl ?_
        | refine LoopEnd.go _ _ ⟨.inl rfl, rfl, rfl, by first | rfl | (repeat first | exact all_nil _ | refine all_la _ _ _ _ _ ?_)⟩ ?_
        | ((with_reducible refine EqE.idW ?_); first  | with_reducible refine EqE.mk _ (n_i64 _ (by omega)) ?_ | with_reducible refine EqE.mk _ (n_succ _ (by omega)) ?_ | refine EqE.mk _ (wrap_in (by omega) (by omega)) ?_ | refine EqE.mk _ rfl ?_)
        | ((with_reducible refine EqE.idM ?_); first  | refine EqE.mk _ rfl ?_)
        | ((with_reducible refine EqE.idI ?_); first  | refine EqE.mk _ (max_eq _ _) ?_ | refine EqE.mk _ (min_eq _ _) ?_)
        | ((with_reducible refine EqE.idS ?_); first  | (refine EqE.fL ?_; (conv => whnf); fail_if_success (show forceL _ _)) | refine EqE.mk _ rfl ?_)
        | ((with_reducible refine EqE.idL ?_); first  | refine EqE.mk _ (sl_own _ _ _ _ (by omega) (by omega) rfl) ?_ | refine EqE.mk _ rfl ?_)
        | refine EqE.mk _ rfl ?_
        | refine Cd.mk (Nat.le_of_ble_eq_true rfl) ?_
        | refine Cd.mk ⟨rfl, rfl⟩ ?_
        | refine Cd.mk (by first | omega | (simp only [length_limbs, length_la]; omega)) ?_
        | refine Cd.mk ?_ ?_)
      rfl
theorem gAdd_is {x y : D} {a b r : Cq} (hx : CxR x a) (hy : CxR y b) (h : (a.1 + b.1, a.2 + b.2) = r) : Sim Tryd.prog G0 false 149 [x, y] (cxD r) := by
  subst h
  obtain ⟨h1, h2⟩ := hx
  obtain ⟨h3, h4⟩ := hy
  refine sim_mk tab_ok Tryd.func149 rfl (by kernel_rfl) rfl ⟨Nat.le_of_ble_eq_true rfl, Nat.le_of_ble_eq_true rfl⟩ ?_
  repeat' ((conv => whnf); first
    | with_reducible refine CallX.data ?_
    | refine CallE.mk _ _ (dadd_sim h1 h3) ?_
    | refine CallE.mk _ _ (dadd_sim h2 h4) ?_
    | refine Cd.mk (show regOk _ _ _ _ = true by kernel_rfl) ?_
    | refine Cd.mk rfl ?_
    | refine Br.t ?_
    | refine Br.f ?_
    | with_reducible refine Br.eqd ?_
    | with_reducible refine Br.eqb ?_
    | with_reducible refine Br.dec (fun _ => ?_) (fun _ => ?_)
    | with_reducible refine Br.ndec (fun _ => ?_) (fun _ => ?_)
    | refine Br.mk (fun _ => ?_) (fun _ => ?_)
    | refine NthE.mk _ rfl ?_
    | refine And.intro (fun _ => ?_) ?_
    | (refine TkE.fL ?_; (conv => whnf); fail_if_success (show forceL _ _))
    | refine TkE.mk _ rfl rfl ?_
    | refine Res.mk ?_
    | refine DsE.mk [] rfl ?_
    | refine LoopEnd.go _ _ ⟨.inl rfl, rfl, rfl, by first | rfl | (repeat first | exact all_nil _ | refine all_la _ _ _ _ _ ?_)⟩ ?_
    | ((with_reducible refine EqE.idW ?_); first  | with_reducible refine EqE.mk _ (n_i64 _ (by omega)) ?_ | with_reducible refine EqE.mk _ (n_succ _ (by omega)) ?_ | refine EqE.mk _ (wrap_in (by omega) (by omega)) ?_ | refine EqE.mk _ rfl ?_)
    | ((with_reducible refine EqE.idM ?_); first  | refine EqE.mk _ rfl ?_)
    | ((with_reducible refine EqE.idI ?_); first  | refine EqE.mk _ (max_eq _ _) ?_ | refine EqE.mk _ (min_eq _ _) ?_)
    | ((with_reducible refine EqE.idS ?_); first  | (refine EqE.fL ?_; (conv => whnf); fail_if_success (show forceL _ _)) | refine EqE.mk _ rfl ?_)
    | ((with_reducible refine EqE.idL ?_); first  | refine EqE.mk _ (sl_own _ _ _ _ (by omega) (by omega) rfl) ?_ | refine EqE.mk _ rfl ?_)
    | refine EqE.mk _ rfl ?_
    | refine Cd.mk (Nat.le_of_ble_eq_true rfl) ?_
    | refine Cd.mk ⟨rfl, rfl⟩ ?_
    | refine Cd.mk (by first | omega | (simp only [length_limbs, length_la]; omega)) ?_
    | refine Cd.mk ?_ ?_)
  rfl
theorem gScale_is {x : D} {a r : Cq} (n : Int) (hx : CxR x a) (h : (a.1 * dof 1 (min (max n (-20000)) 20000), a.2 * dof 1 (min (max n (-20000)) 20000)) = r) : Sim Tryd.prog G0 false 186 [x, .int .i64 n] (cxD r) := by
  subst h
  obtain ⟨h1, h2⟩ := hx
  refine sim_mk tab_ok Tryd.func186 rfl (by kernel_rfl) rfl ⟨Nat.le_of_ble_eq_true rfl, Nat.le_of_ble_eq_true rfl⟩ ?_
  repeat' ((conv => whnf); first
    | with_reducible refine CallX.data ?_
    | refine CallE.mk _ _ (dscale_sim n h1) ?_
    | refine CallE.mk _ _ (dscale_sim n h2) ?_
    | refine Cd.mk (show regOk _ _ _ _ = true by kernel_rfl) ?_
    | refine Cd.mk rfl ?_
    | refine Br.t ?_
    | refine Br.f ?_
    | with_reducible refine Br.eqd ?_
    | with_reducible refine Br.eqb ?_
    | with_reducible refine Br.dec (fun _ => ?_) (fun _ => ?_)
    | with_reducible refine Br.ndec (fun _ => ?_) (fun _ => ?_)
    | refine Br.mk (fun _ => ?_) (fun _ => ?_)
    | refine NthE.mk _ rfl ?_
    | refine And.intro (fun _ => ?_) ?_
    | (refine TkE.fL ?_; (conv => whnf); fail_if_success (show forceL _ _))
    | refine TkE.mk _ rfl rfl ?_
    | refine Res.mk ?_
    | refine DsE.mk [] rfl ?_
    | refine LoopEnd.go _ _ ⟨.inl rfl, rfl, rfl, by first | rfl | (repeat first | exact all_nil _ | refine all_la _ _ _ _ _ ?_)⟩ ?_
    | ((with_reducible refine EqE.idW ?_); first  | with_reducible refine EqE.mk _ (n_i64 _ (by omega)) ?_ | with_reducible refine EqE.mk _ (n_succ _ (by omega)) ?_ | refine EqE.mk _ (wrap_in (by omega) (by omega)) ?_ | refine EqE.mk _ rfl ?_)
    | ((with_reducible refine EqE.idM ?_); first  | refine EqE.mk _ rfl ?_)
    | ((with_reducible refine EqE.idI ?_); first  | refine EqE.mk _ (max_eq _ _) ?_ | refine EqE.mk _ (min_eq _ _) ?_)
    | ((with_reducible refine EqE.idS ?_); first  | (refine EqE.fL ?_; (conv => whnf); fail_if_success (show forceL _ _)) | refine EqE.mk _ rfl ?_)
    | ((with_reducible refine EqE.idL ?_); first  | refine EqE.mk _ (sl_own _ _ _ _ (by omega) (by omega) rfl) ?_ | refine EqE.mk _ rfl ?_)
    | refine EqE.mk _ rfl ?_
    | refine Cd.mk (Nat.le_of_ble_eq_true rfl) ?_
    | refine Cd.mk ⟨rfl, rfl⟩ ?_
    | refine Cd.mk (by first | omega | (simp only [length_limbs, length_la]; omega)) ?_
    | refine Cd.mk ?_ ?_)
  rfl
theorem gSame_is {x y : D} {a b : Cq} {t : Bool} (hx : CxR x a) (hy : CxR y b) (ha : Hc 1000000 a) (hb : Hc 1000000 b) (h : decide (a = b) = t) : Sim Tryd.prog G0 true 187 [x, y] (.bool t) := by
  subst h
  obtain ⟨h1, h2⟩ := hx
  obtain ⟨h3, h4⟩ := hy
  refine sim_mk tab_ok Tryd.func187 rfl (by kernel_rfl) rfl ⟨Nat.le_of_ble_eq_true rfl, Nat.le_of_ble_eq_true rfl⟩ ?_
  repeat' ((conv => whnf); first
    | with_reducible refine CallX.data ?_
    | refine CallE.mk _ _ (dsame_sim h1 h3 (ha.1.sub hb.1 (by decide))) ?_
    | refine CallE.mk _ _ (dsame_sim h2 h4 (ha.2.sub hb.2 (by decide))) ?_
    | refine Cd.mk (show regOk _ _ _ _ = true by kernel_rfl) ?_
    | refine Cd.mk rfl ?_
    | refine Br.t ?_
    | refine Br.f ?_
    | with_reducible refine Br.eqd ?_
    | with_reducible refine Br.eqb ?_
    | with_reducible refine Br.dec (fun _ => ?_) (fun _ => ?_)
    | with_reducible refine Br.ndec (fun _ => ?_) (fun _ => ?_)
    | refine Br.mk (fun _ => ?_) (fun _ => ?_)
    | refine NthE.mk _ rfl ?_
    | refine And.intro (fun _ => ?_) ?_
    | (refine TkE.fL ?_; (conv => whnf); fail_if_success (show forceL _ _))
    | refine TkE.mk _ rfl rfl ?_
    | refine Res.mk ?_
    | refine DsE.mk [] rfl ?_
    | refine LoopEnd.go _ _ ⟨.inl rfl, rfl, rfl, by first | rfl | (repeat first | exact all_nil _ | refine all_la _ _ _ _ _ ?_)⟩ ?_
    | ((with_reducible refine EqE.idW ?_); first  | with_reducible refine EqE.mk _ (n_i64 _ (by omega)) ?_ | with_reducible refine EqE.mk _ (n_succ _ (by omega)) ?_ | refine EqE.mk _ (wrap_in (by omega) (by omega)) ?_ | refine EqE.mk _ rfl ?_)
    | ((with_reducible refine EqE.idM ?_); first  | refine EqE.mk _ rfl ?_)
    | ((with_reducible refine EqE.idI ?_); first  | refine EqE.mk _ (max_eq _ _) ?_ | refine EqE.mk _ (min_eq _ _) ?_)
    | ((with_reducible refine EqE.idS ?_); first  | (refine EqE.fL ?_; (conv => whnf); fail_if_success (show forceL _ _)) | refine EqE.mk _ rfl ?_)
    | ((with_reducible refine EqE.idL ?_); first  | refine EqE.mk _ (sl_own _ _ _ _ (by omega) (by omega) rfl) ?_ | refine EqE.mk _ rfl ?_)
    | refine EqE.mk _ rfl ?_
    | refine Cd.mk (Nat.le_of_ble_eq_true rfl) ?_
    | refine Cd.mk ⟨rfl, rfl⟩ ?_
    | refine Cd.mk (by first | omega | (simp only [length_limbs, length_la]; omega)) ?_
    | refine Cd.mk ?_ ?_)
  · rename_i h
    refine congrArg D.bool (decide_eq_decide.2 ?_)
    rw [Prod.mk.injEq]; exact ⟨fun g => g.2, fun g => ⟨h, g⟩⟩
  · rename_i h
    refine congrArg D.bool (decide_eq_false fun g => h ?_)
    rw [Prod.mk.injEq] at g; exact g.1
end Go.Ev.Ar
