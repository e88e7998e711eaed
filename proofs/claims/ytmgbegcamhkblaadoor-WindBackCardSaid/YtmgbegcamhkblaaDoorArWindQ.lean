/- Contracts of the given functions, on data. Conditions stand in each theorem. -/
import Derived.Test.YtmgbegcamhkblaaDoorArWindK
import Derived.Test.YtmgbegcamhkblaaDoorEvDm
set_option linter.unusedSimpArgs false
set_option linter.unusedVariables false
namespace Go.Ev.Ar
open Go Go.Ev Go.Proofs

def cmul (a b : Cq) : Cq := (a.1 * b.1 - a.2 * b.2, a.1 * b.2 + a.2 * b.1)
theorem rcmul_sim {a b w : Cq} (ha : Hc 4000 a) (hb : Hc 4000 b) (h : cmul a b = w) : Sim Tryd.prog G0 false 34 [cxD a, cxD b] (cxD w) := by
  subst h
  obtain ⟨a1, a2⟩ := ha
  obtain ⟨b1, b2⟩ := hb
  obtain ⟨p, q⟩ := a
  obtain ⟨r, s⟩ := b
  have m1 : Ht 8000 (p * r) := a1.mul b1 (by decide)
  have m2 : Ht 8000 (q * s) := a2.mul b2 (by decide)
  have m3 : Ht 8000 (p * s) := a1.mul b2 (by decide)
  have m4 : Ht 8000 (q * r) := a2.mul b1 (by decide)
  refine sim_mk tab_ok Tryd.func34 rfl (by kernel_rfl) rfl ⟨Nat.le_of_ble_eq_true rfl, Nat.le_of_ble_eq_true rfl⟩ ?_
  repeat' ((conv => whnf); first
    | with_reducible refine CallX.data ?_
    | refine CallE.mk _ _ (rdmul_sim (p := p) (q := r) (by first | assumption | (apply Ht.mono; (focus (repeat' (first | assumption | with_reducible apply Ht.add' | with_reducible apply Ht.sub' | with_reducible apply Ht.mul' | with_reducible apply Ht.neg | with_reducible apply Ht.abs | exact Ht.one | exact Ht.zero 0 | exact Ht.cst (by decide)))); decide)) (by first | assumption | (apply Ht.mono; (focus (repeat' (first | assumption | with_reducible apply Ht.add' | with_reducible apply Ht.sub' | with_reducible apply Ht.mul' | with_reducible apply Ht.neg | with_reducible apply Ht.abs | exact Ht.one | exact Ht.zero 0 | exact Ht.cst (by decide)))); decide))) ?_
    | refine CallE.mk _ _ (rdmul_sim (p := q) (q := s) (by first | assumption | (apply Ht.mono; (focus (repeat' (first | assumption | with_reducible apply Ht.add' | with_reducible apply Ht.sub' | with_reducible apply Ht.mul' | with_reducible apply Ht.neg | with_reducible apply Ht.abs | exact Ht.one | exact Ht.zero 0 | exact Ht.cst (by decide)))); decide)) (by first | assumption | (apply Ht.mono; (focus (repeat' (first | assumption | with_reducible apply Ht.add' | with_reducible apply Ht.sub' | with_reducible apply Ht.mul' | with_reducible apply Ht.neg | with_reducible apply Ht.abs | exact Ht.one | exact Ht.zero 0 | exact Ht.cst (by decide)))); decide))) ?_
    | refine CallE.mk _ _ (rdmul_sim (p := p) (q := s) (by first | assumption | (apply Ht.mono; (focus (repeat' (first | assumption | with_reducible apply Ht.add' | with_reducible apply Ht.sub' | with_reducible apply Ht.mul' | with_reducible apply Ht.neg | with_reducible apply Ht.abs | exact Ht.one | exact Ht.zero 0 | exact Ht.cst (by decide)))); decide)) (by first | assumption | (apply Ht.mono; (focus (repeat' (first | assumption | with_reducible apply Ht.add' | with_reducible apply Ht.sub' | with_reducible apply Ht.mul' | with_reducible apply Ht.neg | with_reducible apply Ht.abs | exact Ht.one | exact Ht.zero 0 | exact Ht.cst (by decide)))); decide))) ?_
    | refine CallE.mk _ _ (rdmul_sim (p := q) (q := r) (by first | assumption | (apply Ht.mono; (focus (repeat' (first | assumption | with_reducible apply Ht.add' | with_reducible apply Ht.sub' | with_reducible apply Ht.mul' | with_reducible apply Ht.neg | with_reducible apply Ht.abs | exact Ht.one | exact Ht.zero 0 | exact Ht.cst (by decide)))); decide)) (by first | assumption | (apply Ht.mono; (focus (repeat' (first | assumption | with_reducible apply Ht.add' | with_reducible apply Ht.sub' | with_reducible apply Ht.mul' | with_reducible apply Ht.neg | with_reducible apply Ht.abs | exact Ht.one | exact Ht.zero 0 | exact Ht.cst (by decide)))); decide))) ?_
    | refine CallE.mk _ _ (rdsub_sim (p := p * r) (q := q * s) (by first | assumption | (apply Ht.mono; (focus (repeat' (first | assumption | with_reducible apply Ht.add' | with_reducible apply Ht.sub' | with_reducible apply Ht.mul' | with_reducible apply Ht.neg | with_reducible apply Ht.abs | exact Ht.one | exact Ht.zero 0 | exact Ht.cst (by decide)))); decide)) (by first | assumption | (apply Ht.mono; (focus (repeat' (first | assumption | with_reducible apply Ht.add' | with_reducible apply Ht.sub' | with_reducible apply Ht.mul' | with_reducible apply Ht.neg | with_reducible apply Ht.abs | exact Ht.one | exact Ht.zero 0 | exact Ht.cst (by decide)))); decide))) ?_
    | refine CallE.mk _ _ (rdadd_sim (p := p * s) (q := q * r) (by first | assumption | (apply Ht.mono; (focus (repeat' (first | assumption | with_reducible apply Ht.add' | with_reducible apply Ht.sub' | with_reducible apply Ht.mul' | with_reducible apply Ht.neg | with_reducible apply Ht.abs | exact Ht.one | exact Ht.zero 0 | exact Ht.cst (by decide)))); decide)) (by first | assumption | (apply Ht.mono; (focus (repeat' (first | assumption | with_reducible apply Ht.add' | with_reducible apply Ht.sub' | with_reducible apply Ht.mul' | with_reducible apply Ht.neg | with_reducible apply Ht.abs | exact Ht.one | exact Ht.zero 0 | exact Ht.cst (by decide)))); decide))) ?_
    | refine Cd.mk (show regOk _ _ _ _ = true by kernel_rfl) ?_
    | refine Cd.mk rfl ?_
    | refine Br.t ?_
    | refine Br.f ?_
    | with_reducible refine Br.eqd ?_
    | with_reducible refine Br.eqb ?_
    | with_reducible refine Br.dec (fun _ => ?_) (fun _ => ?_)
    | with_reducible refine Br.ndec (fun _ => ?_) (fun _ => ?_)
    | refine Br.mk (fun _ => ?_) (fun _ => ?_)
    | refine NthE.mk _ rfl ?_
    | refine And.intro (fun _ => ?_) ?_
    | refine TkE.mk _ rfl rfl ?_
    | refine Res.mk ?_
    | refine DsE.mk [] rfl ?_
    | refine LoopEnd.go _ _ ⟨.inl rfl, rfl, rfl, by first | rfl | (repeat first | exact all_nil _ | refine all_la _ _ _ _ _ ?_)⟩ ?_
    | ((with_reducible refine EqE.idW ?_); first  | with_reducible refine EqE.mk _ (n_i64 _ (by omega)) ?_ | with_reducible refine EqE.mk _ (n_succ _ (by omega)) ?_ | refine EqE.mk _ (wrap_in (by omega) (by omega)) ?_ | refine EqE.mk _ rfl ?_)
    | ((with_reducible refine EqE.idM ?_); first  | refine EqE.mk _ rfl ?_)
    | ((with_reducible refine EqE.idI ?_); first  | refine EqE.mk _ (max_eq _ _) ?_ | refine EqE.mk _ (min_eq _ _) ?_)
    | ((with_reducible refine EqE.idS ?_); first  | refine EqE.mk _ rfl ?_)
    | ((with_reducible refine EqE.idL ?_); first  | refine EqE.mk _ (sl_own _ _ _ _ (by omega) (by omega) rfl) ?_ | refine EqE.mk _ rfl ?_)
    | refine EqE.mk _ rfl ?_
    | refine Cd.mk (Nat.le_of_ble_eq_true rfl) ?_
    | refine Cd.mk ⟨rfl, rfl⟩ ?_
    | refine Cd.mk (by first | omega | (simp only [length_limbs, length_la]; omega)) ?_
    | refine Cd.mk ?_ ?_)
  rfl
theorem rczero_sim {a : Cq} {t : Bool} (ha : Hc 50000 a) (h : decide (a = (0, 0)) = t) : Sim Tryd.prog G0 true 35 [cxD a] (.bool t) := by
  subst h
  obtain ⟨a1, a2⟩ := ha
  obtain ⟨p, q⟩ := a
  have e1 : dsg p = 0 ↔ p = 0 := dsg_eq
  have e2 : dsg q = 0 ↔ q = 0 := dsg_eq
  refine sim_mk tab_ok Tryd.func35 rfl (by kernel_rfl) rfl ⟨Nat.le_of_ble_eq_true rfl, Nat.le_of_ble_eq_true rfl⟩ ?_
  repeat' ((conv => whnf); first
    | with_reducible refine CallX.data ?_
    | refine CallE.mk _ _ (rdsign_sim (p := p) a1) ?_
    | refine CallE.mk _ _ (rdsign_sim (p := q) a2) ?_
    | refine Cd.mk (show regOk _ _ _ _ = true by kernel_rfl) ?_
    | refine Cd.mk rfl ?_
    | refine Br.t ?_
    | refine Br.f ?_
    | with_reducible refine Br.eqd ?_
    | with_reducible refine Br.eqb ?_
    | with_reducible refine Br.dec (fun _ => ?_) (fun _ => ?_)
    | with_reducible refine Br.ndec (fun _ => ?_) (fun _ => ?_)
    | refine Br.mk (fun _ => ?_) (fun _ => ?_)
    | refine NthE.mk _ rfl ?_
    | refine And.intro (fun _ => ?_) ?_
    | refine TkE.mk _ rfl rfl ?_
    | refine Res.mk ?_
    | refine DsE.mk [] rfl ?_
    | refine LoopEnd.go _ _ ⟨.inl rfl, rfl, rfl, by first | rfl | (repeat first | exact all_nil _ | refine all_la _ _ _ _ _ ?_)⟩ ?_
    | ((with_reducible refine EqE.idW ?_); first  | with_reducible refine EqE.mk _ (n_i64 _ (by omega)) ?_ | with_reducible refine EqE.mk _ (n_succ _ (by omega)) ?_ | refine EqE.mk _ (wrap_in (by omega) (by omega)) ?_ | refine EqE.mk _ rfl ?_)
    | ((with_reducible refine EqE.idM ?_); first  | refine EqE.mk _ rfl ?_)
    | ((with_reducible refine EqE.idI ?_); first  | refine EqE.mk _ (max_eq _ _) ?_ | refine EqE.mk _ (min_eq _ _) ?_)
    | ((with_reducible refine EqE.idS ?_); first  | refine EqE.mk _ rfl ?_)
    | ((with_reducible refine EqE.idL ?_); first  | refine EqE.mk _ (sl_own _ _ _ _ (by omega) (by omega) rfl) ?_ | refine EqE.mk _ rfl ?_)
    | refine EqE.mk _ rfl ?_
    | refine Cd.mk (Nat.le_of_ble_eq_true rfl) ?_
    | refine Cd.mk ⟨rfl, rfl⟩ ?_
    | refine Cd.mk (by first | omega | (simp only [length_limbs, length_la]; omega)) ?_
    | refine Cd.mk ?_ ?_)
  · rename_i h
    refine congrArg D.bool (decide_eq_decide.2 ?_)
    rw [Prod.mk.injEq, e2, e1.1 h]; simp
  · rename_i h
    refine congrArg D.bool (decide_eq_false ?_)
    rw [Prod.mk.injEq]; exact fun g => h (e1.2 g.1)
theorem rcneg_sim {a w : Cq} (ha : Hc 50000 a) (h : (-a.1, -a.2) = w) : Sim Tryd.prog G0 false 39 [cxD a] (cxD w) := by
  subst h
  obtain ⟨a1, a2⟩ := ha
  obtain ⟨p, q⟩ := a
  refine sim_mk tab_ok Tryd.func39 rfl (by kernel_rfl) rfl ⟨Nat.le_of_ble_eq_true rfl, Nat.le_of_ble_eq_true rfl⟩ ?_
  repeat' ((conv => whnf); first
    | with_reducible refine CallX.data ?_
    | refine CallE.mk _ _ (rdneg_sim (p := p) a1) ?_
    | refine CallE.mk _ _ (rdneg_sim (p := q) a2) ?_
    | refine Cd.mk (show regOk _ _ _ _ = true by kernel_rfl) ?_
    | refine Cd.mk rfl ?_
    | refine Br.t ?_
    | refine Br.f ?_
    | with_reducible refine Br.eqd ?_
    | with_reducible refine Br.eqb ?_
    | with_reducible refine Br.dec (fun _ => ?_) (fun _ => ?_)
    | with_reducible refine Br.ndec (fun _ => ?_) (fun _ => ?_)
    | refine Br.mk (fun _ => ?_) (fun _ => ?_)
    | refine NthE.mk _ rfl ?_
    | refine And.intro (fun _ => ?_) ?_
    | refine TkE.mk _ rfl rfl ?_
    | refine Res.mk ?_
    | refine DsE.mk [] rfl ?_
    | refine LoopEnd.go _ _ ⟨.inl rfl, rfl, rfl, by first | rfl | (repeat first | exact all_nil _ | refine all_la _ _ _ _ _ ?_)⟩ ?_
    | ((with_reducible refine EqE.idW ?_); first  | with_reducible refine EqE.mk _ (n_i64 _ (by omega)) ?_ | with_reducible refine EqE.mk _ (n_succ _ (by omega)) ?_ | refine EqE.mk _ (wrap_in (by omega) (by omega)) ?_ | refine EqE.mk _ rfl ?_)
    | ((with_reducible refine EqE.idM ?_); first  | refine EqE.mk _ rfl ?_)
    | ((with_reducible refine EqE.idI ?_); first  | refine EqE.mk _ (max_eq _ _) ?_ | refine EqE.mk _ (min_eq _ _) ?_)
    | ((with_reducible refine EqE.idS ?_); first  | refine EqE.mk _ rfl ?_)
    | ((with_reducible refine EqE.idL ?_); first  | refine EqE.mk _ (sl_own _ _ _ _ (by omega) (by omega) rfl) ?_ | refine EqE.mk _ rfl ?_)
    | refine EqE.mk _ rfl ?_
    | refine Cd.mk (Nat.le_of_ble_eq_true rfl) ?_
    | refine Cd.mk ⟨rfl, rfl⟩ ?_
    | refine Cd.mk (by first | omega | (simp only [length_limbs, length_la]; omega)) ?_
    | refine Cd.mk ?_ ?_)
  rfl
theorem rctimes_sim {a w : Cq} {d : Dyadic} (ha : Hc 4000 a) (hd : Ht 4000 d) (h : (a.1 * d, a.2 * d) = w) : Sim Tryd.prog G0 false 40 [cxD a, dyD d] (cxD w) := by
  subst h
  obtain ⟨a1, a2⟩ := ha
  obtain ⟨p, q⟩ := a
  refine sim_mk tab_ok Tryd.func40 rfl (by kernel_rfl) rfl ⟨Nat.le_of_ble_eq_true rfl, Nat.le_of_ble_eq_true rfl⟩ ?_
  repeat' ((conv => whnf); first
    | with_reducible refine CallX.data ?_
    | refine CallE.mk _ _ (rdmul_sim (p := p) (q := d) (by first | assumption | (apply Ht.mono; (focus (repeat' (first | assumption | with_reducible apply Ht.add' | with_reducible apply Ht.sub' | with_reducible apply Ht.mul' | with_reducible apply Ht.neg | with_reducible apply Ht.abs | exact Ht.one | exact Ht.zero 0 | exact Ht.cst (by decide)))); decide)) (by first | assumption | (apply Ht.mono; (focus (repeat' (first | assumption | with_reducible apply Ht.add' | with_reducible apply Ht.sub' | with_reducible apply Ht.mul' | with_reducible apply Ht.neg | with_reducible apply Ht.abs | exact Ht.one | exact Ht.zero 0 | exact Ht.cst (by decide)))); decide))) ?_
    | refine CallE.mk _ _ (rdmul_sim (p := q) (q := d) (by first | assumption | (apply Ht.mono; (focus (repeat' (first | assumption | with_reducible apply Ht.add' | with_reducible apply Ht.sub' | with_reducible apply Ht.mul' | with_reducible apply Ht.neg | with_reducible apply Ht.abs | exact Ht.one | exact Ht.zero 0 | exact Ht.cst (by decide)))); decide)) (by first | assumption | (apply Ht.mono; (focus (repeat' (first | assumption | with_reducible apply Ht.add' | with_reducible apply Ht.sub' | with_reducible apply Ht.mul' | with_reducible apply Ht.neg | with_reducible apply Ht.abs | exact Ht.one | exact Ht.zero 0 | exact Ht.cst (by decide)))); decide))) ?_
    | refine Cd.mk (show regOk _ _ _ _ = true by kernel_rfl) ?_
    | refine Cd.mk rfl ?_
    | refine Br.t ?_
    | refine Br.f ?_
    | with_reducible refine Br.eqd ?_
    | with_reducible refine Br.eqb ?_
    | with_reducible refine Br.dec (fun _ => ?_) (fun _ => ?_)
    | with_reducible refine Br.ndec (fun _ => ?_) (fun _ => ?_)
    | refine Br.mk (fun _ => ?_) (fun _ => ?_)
    | refine NthE.mk _ rfl ?_
    | refine And.intro (fun _ => ?_) ?_
    | refine TkE.mk _ rfl rfl ?_
    | refine Res.mk ?_
    | refine DsE.mk [] rfl ?_
    | refine LoopEnd.go _ _ ⟨.inl rfl, rfl, rfl, by first | rfl | (repeat first | exact all_nil _ | refine all_la _ _ _ _ _ ?_)⟩ ?_
    | ((with_reducible refine EqE.idW ?_); first  | with_reducible refine EqE.mk _ (n_i64 _ (by omega)) ?_ | with_reducible refine EqE.mk _ (n_succ _ (by omega)) ?_ | refine EqE.mk _ (wrap_in (by omega) (by omega)) ?_ | refine EqE.mk _ rfl ?_)
    | ((with_reducible refine EqE.idM ?_); first  | refine EqE.mk _ rfl ?_)
    | ((with_reducible refine EqE.idI ?_); first  | refine EqE.mk _ (max_eq _ _) ?_ | refine EqE.mk _ (min_eq _ _) ?_)
    | ((with_reducible refine EqE.idS ?_); first  | refine EqE.mk _ rfl ?_)
    | ((with_reducible refine EqE.idL ?_); first  | refine EqE.mk _ (sl_own _ _ _ _ (by omega) (by omega) rfl) ?_ | refine EqE.mk _ rfl ?_)
    | refine EqE.mk _ rfl ?_
    | refine Cd.mk (Nat.le_of_ble_eq_true rfl) ?_
    | refine Cd.mk ⟨rfl, rfl⟩ ?_
    | refine Cd.mk (by first | omega | (simp only [length_limbs, length_la]; omega)) ?_
    | refine Cd.mk ?_ ?_)
  rfl
theorem turn_is {x y : D} {a b : Cq} {n : Int} {t : Bool} (hx : CxR x a) (hy : CxR y b) (ha : Hc 200000 a) (hb : Hc 200000 b) (h : turn a b = (n, t)) : Sim Tryd.prog G0 true 26 [x, y] (.tup [.int .i64 n, .bool t]) := by
  have s := turn_sim hx hy ha hb
  rwa [h] at s
theorem quarter_is {x : D} {z : Cq} {n : Int} (hx : CxR x z) (h : quart z = n) : Sim Tryd.prog G0 true 30 [x] (.int .i64 n) := h ▸ quarter_sim hx
theorem side_is {x y : D} {a b : Cq} {n : Int} (hx : CxR x a) (hy : CxR y b) (ha : Hc 200000 a) (hb : Hc 200000 b) (h : dsg (cross a b) = n) : Sim Tryd.prog G0 true 32 [x, y] (.int .i64 n) := h ▸ side_sim hx hy ha hb
theorem quart_rot (a b : Dyadic) (h : ¬ (a = 0 ∧ b = 0)) : 0 ≤ quart (a, b) ∧ quart (-b, a) = (quart (a, b) + 1) % 4 ∧ quart (-a, -b) = (quart (a, b) + 2) % 4 := by
  unfold quart
  dsimp only
  rcases dsg_cases a with ⟨ha, _⟩ | ⟨ha, _⟩ | ⟨ha, _⟩ <;> rcases dsg_cases b with ⟨hb, _⟩ | ⟨hb, _⟩ | ⟨hb, _⟩ <;> grind
theorem mul_pos {p q : Dyadic} (hp : 0 < p) (hq : 0 < q) : 0 < p * q := by
  rw [← dsg_gt, dsg_mul]
  have h1 := dsg_gt.2 hp
  have h2 := dsg_gt.2 hq
  exact Int.mul_pos h1 h2
theorem sq_pos {a b : Dyadic} (h : ¬ (a = 0 ∧ b = 0)) : 0 < a * a + b * b := by
  rcases dsg_cases a with ⟨ha, _⟩ | ⟨ha, _⟩ | ⟨ha, _⟩ <;> rcases dsg_cases b with ⟨hb, _⟩ | ⟨hb, _⟩ | ⟨hb, _⟩
  all_goals
    first
    | have m1 : 0 < a * a := mul_pos ha ha
    | have m1 : 0 < a * a := by have := mul_pos (p := -a) (q := -a) (by grind) (by grind); grind
    | have m1 : a * a = 0 := by rw [ha]; rfl
    first
    | have m2 : 0 < b * b := mul_pos hb hb
    | have m2 : 0 < b * b := by have := mul_pos (p := -b) (q := -b) (by grind) (by grind); grind
    | have m2 : b * b = 0 := by rw [hb]; rfl
    grind
theorem turn_next (a b : Dyadic) (h : ¬ (a = 0 ∧ b = 0)) : turn (a, b) (-b, a) = (1, true) ∧ turn (a, b) (-a, -b) = (0, false) ∧ dsg (cross (a, b) (-b, a)) = 1 := by
  obtain ⟨q0, q1, q2⟩ := quart_rot a b h
  have q3 := (quart_ge (a, b)).2
  have c1 : dsg (cross (a, b) (-b, a)) = 1 := by
    have h1 : cross (a, b) (-b, a) = a * a + b * b := by show a * a - b * -b = _; grind
    rw [h1]
    have h2 := dsg_gt.2 (sq_pos h)
    rcases dsg_cases (a * a + b * b) with h3 | h3 | h3 <;> omega
  have c2 : dsg (cross (a, b) (-a, -b)) = 0 := by
    rw [dsg_eq]; show a * -b - b * -a = 0; grind
  refine ⟨?_, ?_, c1⟩
  · unfold turn turnQ
    rw [c1, q1, if_neg (by omega), if_neg (by omega), if_neg (by omega)]
    rw [show ((quart (a, b) + 1) % 4 - quart (a, b) + 4) % 4 = 1 by omega]
  · unfold turn turnQ
    rw [c2, q2, if_neg (by omega), if_neg (by omega), if_pos (by omega)]; rfl
theorem cross_times (a b d : Dyadic) : dsg (cross (a, b) (a * d, b * d)) = 0 := by
  rw [dsg_eq]; show a * (b * d) - b * (a * d) = 0; grind
set_option maxHeartbeats 4000000 in
theorem windquarters_sim (r : RC) : Sim Tryd.prog G0 true 7 [.agg r.cells] (.bool true) := by
  have sr := fewcplx_sim r
  have fr := few_cx (r := r)
  obtain ⟨b, l, e, c, k, f⟩ := r
  refine sim_mk tab_ok Tryd.func7 rfl (by kernel_rfl) rfl ⟨Nat.le_of_ble_eq_true rfl, Nat.le_of_ble_eq_true rfl⟩ ?_
  cases h2 : RC.few 10 1000 ⟨b, l, e, c, k, f⟩
  · rw [h2] at sr
    repeat' ((conv => whnf); first
      | with_reducible refine CallX.data ?_
      | refine CallE.mk _ _ (known_sim) ?_
      | refine CallE.mk _ _ (sr) ?_
      | refine Cd.mk (show regOk _ _ _ _ = true by kernel_rfl) ?_
      | refine Cd.mk rfl ?_
      | refine Br.t ?_
      | refine Br.f ?_
      | with_reducible refine Br.eqd ?_
      | with_reducible refine Br.eqb ?_
      | with_reducible refine Br.dec (fun _ => ?_) (fun _ => ?_)
      | with_reducible refine Br.ndec (fun _ => ?_) (fun _ => ?_)
      | refine Br.mk (fun _ => ?_) (fun _ => ?_)
      | refine NthE.mk _ rfl ?_
      | refine And.intro (fun _ => ?_) ?_
      | refine TkE.mk _ rfl rfl ?_
      | refine Res.mk ?_
      | refine DsE.mk [] rfl ?_
      | refine LoopEnd.go _ _ ⟨.inl rfl, rfl, rfl, by first | rfl | (repeat first | exact all_nil _ | refine all_la _ _ _ _ _ ?_)⟩ ?_
      | ((with_reducible refine EqE.idW ?_); first  | with_reducible refine EqE.mk _ (n_i64 _ (by omega)) ?_ | with_reducible refine EqE.mk _ (n_succ _ (by omega)) ?_ | refine EqE.mk _ (wrap_in (by omega) (by omega)) ?_ | refine EqE.mk _ rfl ?_)
      | ((with_reducible refine EqE.idM ?_); first  | refine EqE.mk _ rfl ?_)
      | ((with_reducible refine EqE.idI ?_); first  | refine EqE.mk _ (max_eq _ _) ?_ | refine EqE.mk _ (min_eq _ _) ?_)
      | ((with_reducible refine EqE.idS ?_); first  | refine EqE.mk _ rfl ?_)
      | ((with_reducible refine EqE.idL ?_); first  | refine EqE.mk _ (sl_own _ _ _ _ (by omega) (by omega) rfl) ?_ | refine EqE.mk _ rfl ?_)
      | refine EqE.mk _ rfl ?_
      | refine Cd.mk (Nat.le_of_ble_eq_true rfl) ?_
      | refine Cd.mk ⟨rfl, rfl⟩ ?_
      | refine Cd.mk (by first | omega | (simp only [length_limbs, length_la]; omega)) ?_
      | refine Cd.mk ?_ ?_)
    rfl
  rw [h2] at sr
  obtain ⟨fr1, fr2, fr3⟩ := fr h2
  generalize (⟨b, l, e, c, k, f⟩ : RC).val = z at *
  obtain ⟨p, q⟩ := z
  have hz : Hc 1320 (p, q) := fr3
  have h0 : Hc 100 (dof 0 0, dof 1 0) := hc_kz (by decide) (by decide)
  have hy : Hc 1320 (-q, p) := ⟨fr3.2.neg, fr3.1⟩
  have hn : Hc 1320 (-p, -q) := ⟨fr3.1.neg, fr3.2.neg⟩
  have h5 : Ht 164 (dof 5 0) := Ht.cst (by decide)
  have ht : Hc 1600 (p * dof 5 0, q * dof 5 0) := ⟨(fr3.1.mul' h5).mono (by decide), (fr3.2.mul' h5).mono (by decide)⟩
  have hm : cmul (p, q) (dof 0 0, dof 1 0) = (-q, p) := by
    have e0 : dof 0 0 = 0 := rfl
    have e1 : dof 1 0 = 1 := rfl
    show (p * dof 0 0 - q * dof 1 0, p * dof 1 0 + q * dof 0 0) = _
    rw [e0, e1]; congr 1 <;> grind
  have kx : CxR (cxD (p, q)) (p, q) := .of (hz.mono (by decide))
  have ky : CxR (cxD (-q, p)) (-q, p) := .of (hy.mono (by decide))
  have kn : CxR (cxD (-p, -q)) (-p, -q) := .of (hn.mono (by decide))
  have kt : CxR (cxD (p * dof 5 0, q * dof 5 0)) (p * dof 5 0, q * dof 5 0) := .of (ht.mono (by decide))
  have wz := hz.mono (show 1320 ≤ 200000 by decide)
  have wy := hy.mono (show 1320 ≤ 200000 by decide)
  have wn := hn.mono (show 1320 ≤ 200000 by decide)
  have wt := ht.mono (show 1600 ≤ 200000 by decide)
  by_cases hc : p = 0 ∧ q = 0
  · have hw : ((p, q) : Cq) = (0, 0) := by rw [hc.1, hc.2]
    have t1 : turn (p, q) (-q, p) = (0, false) := by rw [hc.1, hc.2]; decide
    have t2 : quart (p, q) = -1 := by rw [hc.1, hc.2]; decide
    repeat' ((conv => whnf); first
      | with_reducible refine CallX.data ?_
      | refine CallE.mk _ _ (known_sim) ?_
      | refine CallE.mk _ _ (sr) ?_
      | refine CallE.mk _ _ (rcplx_sim fr2) ?_
      | refine CallE.mk _ _ (rof_sim 0 1 (by decide) (by decide) (by decide) (by decide)) ?_
      | refine CallE.mk _ _ (rcmul_sim (a := (p, q)) (b := (dof 0 0, dof 1 0)) (hz.mono (by decide)) (h0.mono (by decide)) hm) ?_
      | refine CallE.mk _ _ (turn_is kx ky wz wy t1) ?_
      | refine CallE.mk _ _ (rczero_sim (a := (p, q)) (t := true) (hz.mono (by decide)) (decide_eq_true hw)) ?_
      | refine CallE.mk _ _ (quarter_is kx t2) ?_
      | refine Cd.mk (show regOk _ _ _ _ = true by kernel_rfl) ?_
      | refine Cd.mk rfl ?_
      | refine Br.t ?_
      | refine Br.f ?_
      | with_reducible refine Br.eqd ?_
      | with_reducible refine Br.eqb ?_
      | with_reducible refine Br.dec (fun _ => ?_) (fun _ => ?_)
      | with_reducible refine Br.ndec (fun _ => ?_) (fun _ => ?_)
      | refine Br.mk (fun _ => ?_) (fun _ => ?_)
      | refine NthE.mk _ rfl ?_
      | refine And.intro (fun _ => ?_) ?_
      | refine TkE.mk _ rfl rfl ?_
      | refine Res.mk ?_
      | refine DsE.mk [] rfl ?_
      | refine LoopEnd.go _ _ ⟨.inl rfl, rfl, rfl, by first | rfl | (repeat first | exact all_nil _ | refine all_la _ _ _ _ _ ?_)⟩ ?_
      | ((with_reducible refine EqE.idW ?_); first  | with_reducible refine EqE.mk _ (n_i64 _ (by omega)) ?_ | with_reducible refine EqE.mk _ (n_succ _ (by omega)) ?_ | refine EqE.mk _ (wrap_in (by omega) (by omega)) ?_ | refine EqE.mk _ rfl ?_)
      | ((with_reducible refine EqE.idM ?_); first  | refine EqE.mk _ rfl ?_)
      | ((with_reducible refine EqE.idI ?_); first  | refine EqE.mk _ (max_eq _ _) ?_ | refine EqE.mk _ (min_eq _ _) ?_)
      | ((with_reducible refine EqE.idS ?_); first  | refine EqE.mk _ rfl ?_)
      | ((with_reducible refine EqE.idL ?_); first  | refine EqE.mk _ (sl_own _ _ _ _ (by omega) (by omega) rfl) ?_ | refine EqE.mk _ rfl ?_)
      | refine EqE.mk _ rfl ?_
      | refine Cd.mk (Nat.le_of_ble_eq_true rfl) ?_
      | refine Cd.mk ⟨rfl, rfl⟩ ?_
      | refine Cd.mk (by first | omega | (simp only [length_limbs, length_la]; omega)) ?_
      | refine Cd.mk ?_ ?_)
    rfl
  · have hw : ¬ ((p, q) : Cq) = (0, 0) := fun h => hc (by rw [Prod.mk.injEq] at h; exact h)
    obtain ⟨t1, t2, t3⟩ := turn_next p q hc
    obtain ⟨q0, q1, q2⟩ := quart_rot p q hc
    have q3 := (quart_ge (p, q)).2
    have q4 : (quart (p, q) + 1).tmod 4 = (quart (p, q) + 1) % 4 := Int.tmod_eq_emod_of_nonneg (by omega)
    repeat' ((conv => whnf); first
      | with_reducible refine CallX.data ?_
      | refine CallE.mk _ _ (known_sim) ?_
      | refine CallE.mk _ _ (sr) ?_
      | refine CallE.mk _ _ (rcplx_sim fr2) ?_
      | refine CallE.mk _ _ (rof_sim 0 1 (by decide) (by decide) (by decide) (by decide)) ?_
      | refine CallE.mk _ _ (rcmul_sim (a := (p, q)) (b := (dof 0 0, dof 1 0)) (hz.mono (by decide)) (h0.mono (by decide)) hm) ?_
      | refine CallE.mk _ _ (turn_is kx ky wz wy t1) ?_
      | refine CallE.mk _ _ (rczero_sim (a := (p, q)) (t := false) (hz.mono (by decide)) (decide_eq_false hw)) ?_
      | refine CallE.mk _ _ (rcneg_sim (a := (p, q)) (w := (-p, -q)) (hz.mono (by decide)) rfl) ?_
      | refine CallE.mk _ _ (turn_is kx kn wz wn t2) ?_
      | refine CallE.mk _ _ (quarter_is ky q1) ?_
      | refine CallE.mk _ _ (quarter_sim kx) ?_
      | refine CallE.mk _ _ (side_is kx ky wz wy t3) ?_
      | refine CallE.mk _ _ (rofd_sim 5 (by decide) (by decide)) ?_
      | refine CallE.mk _ _ (rctimes_sim (a := (p, q)) (d := dof 5 0) (w := (p * dof 5 0, q * dof 5 0)) (hz.mono (by decide)) (h5.mono (by decide)) rfl) ?_
      | refine CallE.mk _ _ (side_is kx kt wz wt (cross_times p q (dof 5 0))) ?_
      | with_reducible refine Br.dec (fun _ => ?_) (fun h => absurd (by omega) h)
      | with_reducible refine Br.dec (fun h => absurd h (by omega)) (fun _ => ?_)
      | refine Cd.mk (show regOk _ _ _ _ = true by kernel_rfl) ?_
      | refine Cd.mk rfl ?_
      | refine Br.t ?_
      | refine Br.f ?_
      | with_reducible refine Br.eqd ?_
      | with_reducible refine Br.eqb ?_
      | with_reducible refine Br.dec (fun _ => ?_) (fun _ => ?_)
      | with_reducible refine Br.ndec (fun _ => ?_) (fun _ => ?_)
      | refine Br.mk (fun _ => ?_) (fun _ => ?_)
      | refine NthE.mk _ rfl ?_
      | refine And.intro (fun _ => ?_) ?_
      | refine TkE.mk _ rfl rfl ?_
      | refine Res.mk ?_
      | refine DsE.mk [] rfl ?_
      | refine LoopEnd.go _ _ ⟨.inl rfl, rfl, rfl, by first | rfl | (repeat first | exact all_nil _ | refine all_la _ _ _ _ _ ?_)⟩ ?_
      | ((with_reducible refine EqE.idW ?_); first  | with_reducible refine EqE.mk _ (n_i64 _ (by omega)) ?_ | with_reducible refine EqE.mk _ (n_succ _ (by omega)) ?_ | refine EqE.mk _ (wrap_in (by omega) (by omega)) ?_ | refine EqE.mk _ rfl ?_)
      | ((with_reducible refine EqE.idM ?_); first  | refine EqE.mk _ rfl ?_)
      | ((with_reducible refine EqE.idI ?_); first  | refine EqE.mk _ (max_eq _ _) ?_ | refine EqE.mk _ (min_eq _ _) ?_)
      | ((with_reducible refine EqE.idS ?_); first  | refine EqE.mk _ rfl ?_)
      | ((with_reducible refine EqE.idL ?_); first  | refine EqE.mk _ (sl_own _ _ _ _ (by omega) (by omega) rfl) ?_ | refine EqE.mk _ rfl ?_)
      | refine EqE.mk _ rfl ?_
      | refine Cd.mk (Nat.le_of_ble_eq_true rfl) ?_
      | refine Cd.mk ⟨rfl, rfl⟩ ?_
      | refine Cd.mk (by first | omega | (simp only [length_limbs, length_la]; omega)) ?_
      | refine Cd.mk ?_ ?_)
    rfl
end Go.Ev.Ar
