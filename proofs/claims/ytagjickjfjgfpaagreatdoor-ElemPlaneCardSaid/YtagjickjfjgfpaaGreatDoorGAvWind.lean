/- Contracts of the given functions, on data. Conditions stand in each theorem. -/
import Derived.Test.YtagjickjfjgfpaaGreatDoorGAvZ
import Derived.Test.YtagjickjfjgfpaaGreatDoorGAvRZ
import Derived.Test.YtagjickjfjgfpaaGreatDoorGEvZ
set_option linter.unusedSimpArgs false
set_option linter.unusedVariables false
namespace Go.Ev.Ar
open Go Go.Ev Go.Proofs

theorem dsign_at {x : D} {q : Dyadic} {s : Int} (hx : DyR x q) (h : dsg q = s) : Sim Tryz.prog G0 true 182 [x] (.int .i64 s) := h ▸ dsign_sim hx
/-- Data of few limbs that means a point. -/
inductive CxF : D → Cq → Prop where
  | mk {b : Bool} {l : List UInt32} {e : Int} {c : Bool} {k : List UInt32} {f : Int} {p q : Dyadic} (hp : DyF (.agg [.bool b, sl l, .int .i64 e]) p) (hq : DyF (.agg [.bool c, sl k, .int .i64 f]) q) :
    CxF (.agg [.bool b, sl l, .int .i64 e, .bool c, sl k, .int .i64 f]) (p, q)
theorem cxF_few {n : Nat} (b : Nat) {B : Int} (hB : B = b) {r : RC} (hn : n ≤ 1000) (hb : b ≤ 100000) (h : r.few n B = true) : CxF (.agg r.cells) r.val := by
  subst hB
  have h := RC.few_iff.1 h
  exact .mk (.mk _ _ _ (by omega) (by omega) (by omega)) (.mk _ _ _ (by omega) (by omega) (by omega))
theorem rcplx_sim {x : D} {z : Cq} (hx : CxF x z) : Sim Tryz.prog G0 false 56 [x] (cxD z) := by
  obtain ⟨hp, hq⟩ := hx
  refine sim_mk tab_ok Tryz.func56 rfl (by kernel_rfl) rfl ⟨Nat.le_of_ble_eq_true rfl, Nat.le_of_ble_eq_true rfl⟩ ?_
  repeat' ((conv => whnf); first
    | refine CallE.mk _ _ (rExact_sim hp) ?_
    | refine CallE.mk _ _ (rExact_sim hq) ?_
    | refine RegE.early (Cd.mk (show regOk _ _ _ _ = true by kernel_rfl) ?_)
    | refine Cd.mk rfl ?_
    | (refine TkE.fL ?_; (conv => whnf); fail_if_success (show forceL _ _))
    | refine Res.mk ?_
    | ((with_reducible refine EqE.idS ?_); (refine EqE.fP ?_; (conv => whnf); fail_if_success (show forceL _ _)))
    | refine Cd.mk (Nat.le_of_ble_eq_true rfl) ?_)
  rfl
theorem rof_sim (m n : Int) (h1 : -9223372036854775808 ≤ m) (h2 : m ≤ 9223372036854775807) (h3 : -9223372036854775808 ≤ n) (h4 : n ≤ 9223372036854775807) : Sim Tryz.prog G0 false 42 [.int .i64 m, .int .i64 n] (cxD (dof m 0, dof n 0)) := by
  refine sim_mk tab_ok Tryz.func42 rfl (by kernel_rfl) rfl ⟨Nat.le_of_ble_eq_true rfl, Nat.le_of_ble_eq_true rfl⟩ ?_
  repeat' ((conv => whnf); first
    | with_reducible refine CallX.data ?_
    | refine CallE.mk _ _ (rofd_sim _ h1 h2) ?_
    | refine CallE.mk _ _ (rofd_sim _ h3 h4) ?_
    | refine RegE.early (Cd.mk (show regOk _ _ _ _ = true by kernel_rfl) ?_)
    | refine Cd.mk rfl ?_
    | (refine TkE.fL ?_; (conv => whnf); fail_if_success (show forceL _ _))
    | refine Res.mk ?_
    | ((with_reducible refine EqE.idS ?_); (refine EqE.fP ?_; (conv => whnf); fail_if_success (show forceL _ _)))
    | refine Cd.mk (Nat.le_of_ble_eq_true rfl) ?_)
  rfl
theorem rdsign_at {p : Dyadic} {s : Int} (hp : Ht 50000 p) (h : dsg p = s) : Sim Tryz.prog G0 true 23 [dyD p] (.int .i64 s) := h ▸ rdsign_sim hp
def kz : List Cq := [(dof 1 0, dof 0 0), (dof 0 0, dof 1 0), (dof (-1) 0, dof 0 0), (dof 0 0, dof (-1) 0)]
theorem kz_number : number kz = (1, true) := by decide
theorem kz_turn : turn (dof 1 0, dof 0 0) (dof 0 0, dof 1 0) = (1, true) := by decide
theorem kz_turn2 : (turn (dof 1 0, dof 0 0) (dof (-1) 0, dof 0 0)).2 = false := by decide
theorem kz_quart : quart (dof 0 0, dof (-1) 0) = 3 := by decide
theorem kz_side : dsg (cross (dof 1 0, dof 0 0) (dof 0 0, dof 1 0)) = 1 := by decide
end Go.Ev.Ar

namespace Go.Ev.Ar
open Go Go.Ev Go.Proofs

theorem ht_one (n : Int) (h : n.natAbs ≤ 8) : Ht 100 (dof n 0) := Ht.dof (a := 64) (b := 0) (Zt.small (by omega) (by decide)) (by decide) (by decide) (by decide)
theorem hc_kz {m n : Int} (h : m.natAbs ≤ 8) (h2 : n.natAbs ≤ 8) : Hc 100 (dof m 0, dof n 0) := ⟨ht_one m h, ht_one n h2⟩
theorem kx {m n : Int} (h : m.natAbs ≤ 8) (h2 : n.natAbs ≤ 8) : CxR (cxD (dof m 0, dof n 0)) (dof m 0, dof n 0) := .of ((hc_kz h h2).mono (by decide))
theorem cx0 : D.agg [.bool false, sl [], .int .i64 0, .bool false, sl [], .int .i64 0] = cxD (0, 0) := by
  show _ = D.agg [.bool _, sl (ofN 0), .int .i64 _, .bool _, sl (ofN 0), .int .i64 _]
  rw [ofN_zero]; rfl
theorem few_cx {r : RC} (h : r.few 10 1000 = true) : CxR (.agg r.cells) r.val ∧ CxF (.agg r.cells) r.val ∧ Hc 1320 r.val := ⟨RC.cxR 1000 (by decide) (by decide) (by decide) h, cxF_few 1000 (by decide) (by decide) (by decide) h, RC.hc 1000 1320 (by decide) (by decide) h⟩
end Go.Ev.Ar

namespace Go.Ev.Ar
open Go Go.Ev Go.Proofs

def cmul (a b : Cq) : Cq := (a.1 * b.1 - a.2 * b.2, a.1 * b.2 + a.2 * b.1)
theorem rcmul_sim {a b w : Cq} (ha : Hc 4000 a) (hb : Hc 4000 b) (h : cmul a b = w) : Sim Tryz.prog G0 false 97 [cxD a, cxD b] (cxD w) := by
  subst h
  obtain ⟨a1, a2⟩ := ha
  obtain ⟨b1, b2⟩ := hb
  obtain ⟨p, q⟩ := a
  obtain ⟨r, s⟩ := b
  have m1 : Ht 8000 (p * r) := a1.mul b1 (by decide)
  have m2 : Ht 8000 (q * s) := a2.mul b2 (by decide)
  have m3 : Ht 8000 (p * s) := a1.mul b2 (by decide)
  have m4 : Ht 8000 (q * r) := a2.mul b1 (by decide)
  refine sim_mk tab_ok Tryz.func97 rfl (by kernel_rfl) rfl ⟨Nat.le_of_ble_eq_true rfl, Nat.le_of_ble_eq_true rfl⟩ ?_
  repeat' ((conv => whnf); first
    | refine CallE.mk _ _ (rdmul_sim (p := p) (q := r) (by first | assumption | (apply Ht.mono; (focus (repeat' (first | assumption | with_reducible apply Ht.add' | with_reducible apply Ht.sub' | with_reducible apply Ht.mul' | with_reducible apply Ht.neg | with_reducible apply Ht.abs | exact Ht.one | exact Ht.zero 0 | exact Ht.cst (by decide)))); decide)) (by first | assumption | (apply Ht.mono; (focus (repeat' (first | assumption | with_reducible apply Ht.add' | with_reducible apply Ht.sub' | with_reducible apply Ht.mul' | with_reducible apply Ht.neg | with_reducible apply Ht.abs | exact Ht.one | exact Ht.zero 0 | exact Ht.cst (by decide)))); decide))) ?_
    | refine CallE.mk _ _ (rdmul_sim (p := q) (q := s) (by first | assumption | (apply Ht.mono; (focus (repeat' (first | assumption | with_reducible apply Ht.add' | with_reducible apply Ht.sub' | with_reducible apply Ht.mul' | with_reducible apply Ht.neg | with_reducible apply Ht.abs | exact Ht.one | exact Ht.zero 0 | exact Ht.cst (by decide)))); decide)) (by first | assumption | (apply Ht.mono; (focus (repeat' (first | assumption | with_reducible apply Ht.add' | with_reducible apply Ht.sub' | with_reducible apply Ht.mul' | with_reducible apply Ht.neg | with_reducible apply Ht.abs | exact Ht.one | exact Ht.zero 0 | exact Ht.cst (by decide)))); decide))) ?_
    | refine CallE.mk _ _ (rdmul_sim (p := p) (q := s) (by first | assumption | (apply Ht.mono; (focus (repeat' (first | assumption | with_reducible apply Ht.add' | with_reducible apply Ht.sub' | with_reducible apply Ht.mul' | with_reducible apply Ht.neg | with_reducible apply Ht.abs | exact Ht.one | exact Ht.zero 0 | exact Ht.cst (by decide)))); decide)) (by first | assumption | (apply Ht.mono; (focus (repeat' (first | assumption | with_reducible apply Ht.add' | with_reducible apply Ht.sub' | with_reducible apply Ht.mul' | with_reducible apply Ht.neg | with_reducible apply Ht.abs | exact Ht.one | exact Ht.zero 0 | exact Ht.cst (by decide)))); decide))) ?_
    | refine CallE.mk _ _ (rdmul_sim (p := q) (q := r) (by first | assumption | (apply Ht.mono; (focus (repeat' (first | assumption | with_reducible apply Ht.add' | with_reducible apply Ht.sub' | with_reducible apply Ht.mul' | with_reducible apply Ht.neg | with_reducible apply Ht.abs | exact Ht.one | exact Ht.zero 0 | exact Ht.cst (by decide)))); decide)) (by first | assumption | (apply Ht.mono; (focus (repeat' (first | assumption | with_reducible apply Ht.add' | with_reducible apply Ht.sub' | with_reducible apply Ht.mul' | with_reducible apply Ht.neg | with_reducible apply Ht.abs | exact Ht.one | exact Ht.zero 0 | exact Ht.cst (by decide)))); decide))) ?_
    | refine CallE.mk _ _ (rdsub_sim (p := p * r) (q := q * s) (by first | assumption | (apply Ht.mono; (focus (repeat' (first | assumption | with_reducible apply Ht.add' | with_reducible apply Ht.sub' | with_reducible apply Ht.mul' | with_reducible apply Ht.neg | with_reducible apply Ht.abs | exact Ht.one | exact Ht.zero 0 | exact Ht.cst (by decide)))); decide)) (by first | assumption | (apply Ht.mono; (focus (repeat' (first | assumption | with_reducible apply Ht.add' | with_reducible apply Ht.sub' | with_reducible apply Ht.mul' | with_reducible apply Ht.neg | with_reducible apply Ht.abs | exact Ht.one | exact Ht.zero 0 | exact Ht.cst (by decide)))); decide))) ?_
    | refine CallE.mk _ _ (rdadd_sim (p := p * s) (q := q * r) (by first | assumption | (apply Ht.mono; (focus (repeat' (first | assumption | with_reducible apply Ht.add' | with_reducible apply Ht.sub' | with_reducible apply Ht.mul' | with_reducible apply Ht.neg | with_reducible apply Ht.abs | exact Ht.one | exact Ht.zero 0 | exact Ht.cst (by decide)))); decide)) (by first | assumption | (apply Ht.mono; (focus (repeat' (first | assumption | with_reducible apply Ht.add' | with_reducible apply Ht.sub' | with_reducible apply Ht.mul' | with_reducible apply Ht.neg | with_reducible apply Ht.abs | exact Ht.one | exact Ht.zero 0 | exact Ht.cst (by decide)))); decide))) ?_
    | refine RegE.early (Cd.mk (show regOk _ _ _ _ = true by kernel_rfl) ?_)
    | refine Cd.mk rfl ?_
    | (refine TkE.fL ?_; (conv => whnf); fail_if_success (show forceL _ _))
    | refine Res.mk ?_
    | ((with_reducible refine EqE.idS ?_); (refine EqE.fP ?_; (conv => whnf); fail_if_success (show forceL _ _)))
    | refine Cd.mk (Nat.le_of_ble_eq_true rfl) ?_)
  rfl
theorem rczero_sim {a : Cq} {t : Bool} (ha : Hc 50000 a) (h : decide (a = (0, 0)) = t) : Sim Tryz.prog G0 true 50 [cxD a] (.bool t) := by
  subst h
  obtain ⟨a1, a2⟩ := ha
  obtain ⟨p, q⟩ := a
  have e1 : dsg p = 0 ↔ p = 0 := dsg_eq
  have e2 : dsg q = 0 ↔ q = 0 := dsg_eq
  refine sim_mk tab_ok Tryz.func50 rfl (by kernel_rfl) rfl ⟨Nat.le_of_ble_eq_true rfl, Nat.le_of_ble_eq_true rfl⟩ ?_
  repeat' ((conv => whnf); first
    | with_reducible refine CallX.data ?_
    | refine CallE.mk _ _ (rdsign_sim (p := p) a1) ?_
    | refine CallE.mk _ _ (rdsign_sim (p := q) a2) ?_
    | refine RegE.early (Cd.mk (show regOk _ _ _ _ = true by kernel_rfl) ?_)
    | refine Cd.mk rfl ?_
    | refine Br.t ?_
    | refine Br.f ?_
    | with_reducible refine Br.dec (fun _ => ?_) (fun _ => ?_)
    | (refine TkE.fL ?_; (conv => whnf); fail_if_success (show forceL _ _))
    | refine Res.mk ?_)
  · rename_i h
    refine congrArg D.bool (decide_eq_decide.2 ?_)
    rw [Prod.mk.injEq, e2, e1.1 h]; simp
  · rename_i h
    refine congrArg D.bool (decide_eq_false ?_)
    rw [Prod.mk.injEq]; exact fun g => h (e1.2 g.1)
theorem rcneg_sim {a w : Cq} (ha : Hc 50000 a) (h : (-a.1, -a.2) = w) : Sim Tryz.prog G0 false 155 [cxD a] (cxD w) := by
  subst h
  obtain ⟨a1, a2⟩ := ha
  obtain ⟨p, q⟩ := a
  refine sim_mk tab_ok Tryz.func155 rfl (by kernel_rfl) rfl ⟨Nat.le_of_ble_eq_true rfl, Nat.le_of_ble_eq_true rfl⟩ ?_
  repeat' ((conv => whnf); first
    | refine CallE.mk _ _ (rdneg_sim (p := p) a1) ?_
    | refine CallE.mk _ _ (rdneg_sim (p := q) a2) ?_
    | refine RegE.early (Cd.mk (show regOk _ _ _ _ = true by kernel_rfl) ?_)
    | refine Cd.mk rfl ?_
    | (refine TkE.fL ?_; (conv => whnf); fail_if_success (show forceL _ _))
    | refine Res.mk ?_
    | ((with_reducible refine EqE.idS ?_); (refine EqE.fP ?_; (conv => whnf); fail_if_success (show forceL _ _)))
    | refine Cd.mk (Nat.le_of_ble_eq_true rfl) ?_)
  rfl
theorem rctimes_sim {a w : Cq} {d : Dyadic} (ha : Hc 4000 a) (hd : Ht 4000 d) (h : (a.1 * d, a.2 * d) = w) : Sim Tryz.prog G0 false 113 [cxD a, dyD d] (cxD w) := by
  subst h
  obtain ⟨a1, a2⟩ := ha
  obtain ⟨p, q⟩ := a
  refine sim_mk tab_ok Tryz.func113 rfl (by kernel_rfl) rfl ⟨Nat.le_of_ble_eq_true rfl, Nat.le_of_ble_eq_true rfl⟩ ?_
  repeat' ((conv => whnf); first
    | refine CallE.mk _ _ (rdmul_sim (p := p) (q := d) (by first | assumption | (apply Ht.mono; (focus (repeat' (first | assumption | with_reducible apply Ht.add' | with_reducible apply Ht.sub' | with_reducible apply Ht.mul' | with_reducible apply Ht.neg | with_reducible apply Ht.abs | exact Ht.one | exact Ht.zero 0 | exact Ht.cst (by decide)))); decide)) (by first | assumption | (apply Ht.mono; (focus (repeat' (first | assumption | with_reducible apply Ht.add' | with_reducible apply Ht.sub' | with_reducible apply Ht.mul' | with_reducible apply Ht.neg | with_reducible apply Ht.abs | exact Ht.one | exact Ht.zero 0 | exact Ht.cst (by decide)))); decide))) ?_
    | refine CallE.mk _ _ (rdmul_sim (p := q) (q := d) (by first | assumption | (apply Ht.mono; (focus (repeat' (first | assumption | with_reducible apply Ht.add' | with_reducible apply Ht.sub' | with_reducible apply Ht.mul' | with_reducible apply Ht.neg | with_reducible apply Ht.abs | exact Ht.one | exact Ht.zero 0 | exact Ht.cst (by decide)))); decide)) (by first | assumption | (apply Ht.mono; (focus (repeat' (first | assumption | with_reducible apply Ht.add' | with_reducible apply Ht.sub' | with_reducible apply Ht.mul' | with_reducible apply Ht.neg | with_reducible apply Ht.abs | exact Ht.one | exact Ht.zero 0 | exact Ht.cst (by decide)))); decide))) ?_
    | refine RegE.early (Cd.mk (show regOk _ _ _ _ = true by kernel_rfl) ?_)
    | refine Cd.mk rfl ?_
    | (refine TkE.fL ?_; (conv => whnf); fail_if_success (show forceL _ _))
    | refine Res.mk ?_
    | ((with_reducible refine EqE.idS ?_); (refine EqE.fP ?_; (conv => whnf); fail_if_success (show forceL _ _)))
    | refine Cd.mk (Nat.le_of_ble_eq_true rfl) ?_)
  rfl
theorem quart_rot (a b : Dyadic) (h : ¬ (a = 0 ∧ b = 0)) : 0 ≤ quart (a, b) ∧ quart (-b, a) = (quart (a, b) + 1) % 4 ∧ quart (-a, -b) = (quart (a, b) + 2) % 4 := by
  unfold quart
  dsimp only
  rcases dsg_cases a with ⟨ha, _⟩ | ⟨ha, _⟩ | ⟨ha, _⟩ <;> rcases dsg_cases b with ⟨hb, _⟩ | ⟨hb, _⟩ | ⟨hb, _⟩ <;> grind
theorem mul_pos {p q : Dyadic} (hp : 0 < p) (hq : 0 < q) : 0 < p * q := by
  rw [← dsg_gt, dsg_mul]
  have h1 := dsg_gt.2 hp
  have h2 := dsg_gt.2 hq
  exact Int.mul_pos h1 h2
theorem sq_pos {a b : Dyadic} (h : ¬ (a = 0 ∧ b = 0)) : 0 < a * a + b * b := by
  rcases dsg_cases a with ⟨ha, _⟩ | ⟨ha, _⟩ | ⟨ha, _⟩ <;> rcases dsg_cases b with ⟨hb, _⟩ | ⟨hb, _⟩ | ⟨hb, _⟩
  all_goals
    first
    | have m1 : 0 < a * a := mul_pos ha ha
    | have m1 : 0 < a * a := by have := mul_pos (p := -a) (q := -a) (by grind) (by grind); grind
    | have m1 : a * a = 0 := by rw [ha]; rfl
    first
    | have m2 : 0 < b * b := mul_pos hb hb
    | have m2 : 0 < b * b := by have := mul_pos (p := -b) (q := -b) (by grind) (by grind); grind
    | have m2 : b * b = 0 := by rw [hb]; rfl
    grind
theorem turn_next (a b : Dyadic) (h : ¬ (a = 0 ∧ b = 0)) : turn (a, b) (-b, a) = (1, true) ∧ turn (a, b) (-a, -b) = (0, false) ∧ dsg (cross (a, b) (-b, a)) = 1 := by
  obtain ⟨q0, q1, q2⟩ := quart_rot a b h
  have q3 := (quart_ge (a, b)).2
  have c1 : dsg (cross (a, b) (-b, a)) = 1 := by
    have h1 : cross (a, b) (-b, a) = a * a + b * b := by show a * a - b * -b = _; grind
    rw [h1]
    have h2 := dsg_gt.2 (sq_pos h)
    rcases dsg_cases (a * a + b * b) with h3 | h3 | h3 <;> omega
  have c2 : dsg (cross (a, b) (-a, -b)) = 0 := by
    rw [dsg_eq]; show a * -b - b * -a = 0; grind
  refine ⟨?_, ?_, c1⟩
  · unfold turn turnQ
    rw [c1, q1, if_neg (by omega), if_neg (by omega), if_neg (by omega)]
    rw [show ((quart (a, b) + 1) % 4 - quart (a, b) + 4) % 4 = 1 by omega]
  · unfold turn turnQ
    rw [c2, q2, if_neg (by omega), if_neg (by omega), if_pos (by omega)]; rfl
theorem cross_times (a b d : Dyadic) : dsg (cross (a, b) (a * d, b * d)) = 0 := by
  rw [dsg_eq]; show a * (b * d) - b * (a * d) = 0; grind
end Go.Ev.Ar
