/- Contracts of the given functions, on data. Conditions stand in each theorem. -/
import Derived.Test.YtlhhckpjcglinaaGreatDoorGAzReal
import Derived.Test.YtlhhckpjcglinaaGreatDoorGAzWind
import Derived.Test.YtlhhckpjcglinaaGreatDoorGEvZ
set_option linter.unusedSimpArgs false
set_option linter.unusedVariables false
namespace Go.Ev.Ar
open Go Go.Ev Go.Proofs

/-- A square, as it must be told. -/
def bxD (a : Cq) (h : Dyadic) : D := .agg [.bool (zneg (dman a.1)), sl (ofN (dman a.1).natAbs), .int .i64 (dexp a.1), .bool (zneg (dman a.2)), sl (ofN (dman a.2).natAbs), .int .i64 (dexp a.2), .bool (zneg (dman h)), sl (ofN (dman h).natAbs), .int .i64 (dexp h)]
inductive BxR : D → Cq → Dyadic → Prop where
  | mk {b : Bool} {l : List UInt32} {e : Int} {c : Bool} {k : List UInt32} {f : Int} {b' : Bool} {l' : List UInt32} {e' : Int} {z : Cq} {h : Dyadic}
    (h1 : CxR (.agg [.bool b, sl l, .int .i64 e, .bool c, sl k, .int .i64 f]) z) (h2 : DyR (.agg [.bool b', sl l', .int .i64 e']) h) :
    BxR (.agg [.bool b, sl l, .int .i64 e, .bool c, sl k, .int .i64 f, .bool b', sl l', .int .i64 e']) z h
theorem BxR.of {a : Cq} {h : Dyadic} (ha : Hc 1048576 a) (hh : Ht 1048576 h) : BxR (bxD a h) a h := .mk (.of ha) (.of hh)
/-- Half a side, as it counts. -/
def hf (h : Dyadic) : Dyadic := if h = 0 then dof 1 0 else dabs h
theorem hf_pos (h : Dyadic) : 0 < hf h := by
  unfold hf
  split
  · decide
  · rw [dabs_eq]; split <;> grind
theorem hf_self {h : Dyadic} (hp : 0 < h) : hf h = h := by
  unfold hf; rw [if_neg (by grind), dabs_eq, if_neg (by grind)]
theorem ht_hf {a : Nat} {h : Dyadic} (hh : Ht a h) (ha : 164 ≤ a) : Ht a (Ar.hf h) := by
  unfold Ar.hf
  split
  · exact (Ht.cst (by decide)).mono ha
  · exact hh.abs
theorem half_is {x : D} {c : Cq} {h r : Dyadic} (hx : BxR x c h) (e : hf h = r) : Sim Tryz.prog G0 false 128 [x] (dyD r) := by
  subst e
  obtain ⟨h1, h2⟩ := hx
  refine sim_mk tab_ok Tryz.func128 rfl (by kernel_rfl) rfl ⟨Nat.le_of_ble_eq_true rfl, Nat.le_of_ble_eq_true rfl⟩ ?_
  repeat' ((conv => whnf); first
    | with_reducible refine CallX.data ?_
    | refine CallE.mk _ _ (dsign_sim h2) ?_
    | refine CallE.mk _ _ (dofn_sim 1 (by decide) (by decide)) ?_
    | refine CallE.mk _ _ (dabs_sim h2) ?_
    | refine RegE.early (Cd.mk (show regOk _ _ _ _ = true by kernel_rfl) ?_)
    | refine Cd.mk rfl ?_
    | with_reducible refine Br.dec (fun _ => ?_) (fun _ => ?_)
    | (refine TkE.fL ?_; (conv => whnf); fail_if_success (show forceL _ _))
    | refine Res.mk ?_
    | ((with_reducible refine EqE.idS ?_); (refine EqE.fP ?_; (conv => whnf); fail_if_success (show forceL _ _)))
    | refine Cd.mk (Nat.le_of_ble_eq_true rfl) ?_)
  · rename_i g
    unfold hf; rw [if_pos (dsg_eq.1 g)]; rfl
  · rename_i g
    unfold hf; rw [if_neg (fun k => g (dsg_eq.2 k))]; rfl
theorem around_is {x y : D} {c : Cq} {h : Dyadic} {a b : Cq} (hx : CxR x c) (hy : DyR y h) (ea : (c.1 - h, c.1 + h) = a) (eb : (c.2 - h, c.2 + h) = b) : Sim Tryz.prog G0 false 140 [x, y] (rcD a b) := by
  subst ea eb
  obtain ⟨h1, h2⟩ := hx
  obtain ⟨_, _, _⟩ := hy
  rename_i k1 k2 k3 k4
  have hy := DyR.mk _ _ _ k1 k2 k3 k4
  refine sim_mk tab_ok Tryz.func140 rfl (by kernel_rfl) rfl ⟨Nat.le_of_ble_eq_true rfl, Nat.le_of_ble_eq_true rfl⟩ ?_
  repeat' ((conv => whnf); first
    | refine CallE.mk _ _ (dsub_sim h1 hy) ?_
    | refine CallE.mk _ _ (dadd_sim h1 hy) ?_
    | refine CallE.mk _ _ (dsub_sim h2 hy) ?_
    | refine CallE.mk _ _ (dadd_sim h2 hy) ?_
    | refine RegE.early (Cd.mk (show regOk _ _ _ _ = true by kernel_rfl) ?_)
    | refine Cd.mk rfl ?_
    | (refine TkE.fL ?_; (conv => whnf); fail_if_success (show forceL _ _))
    | refine Res.mk ?_
    | ((with_reducible refine EqE.idS ?_); (refine EqE.fP ?_; (conv => whnf); fail_if_success (show forceL _ _)))
    | refine Cd.mk (Nat.le_of_ble_eq_true rfl) ?_)
  rfl
theorem bRect_is {x : D} {c : Cq} {h r : Dyadic} {a b : Cq} (hx : BxR x c h) (hh : Ht 1000000 h) (e : hf h = r) (ea : (c.1 - r, c.1 + r) = a) (eb : (c.2 - r, c.2 + r) = b) : Sim Tryz.prog G0 false 32 [x] (rcD a b) := by
  have s := half_is hx e
  have hr : Ht 1000000 r := e ▸ ht_hf hh (by decide)
  obtain ⟨h1, h2⟩ := hx
  have s2 := around_is h1 (.of (hr.mono (by decide))) ea eb
  refine sim_mk tab_ok Tryz.func32 rfl (by kernel_rfl) rfl ⟨Nat.le_of_ble_eq_true rfl, Nat.le_of_ble_eq_true rfl⟩ ?_
  repeat' ((conv => whnf); first
    | refine CallE.mk _ _ (s) ?_
    | refine CallE.mk _ _ (s2) ?_
    | refine RegE.early (Cd.mk (show regOk _ _ _ _ = true by kernel_rfl) ?_)
    | refine Cd.mk rfl ?_
    | (refine TkE.fL ?_; (conv => whnf); fail_if_success (show forceL _ _))
    | refine Res.mk ?_
    | ((with_reducible refine EqE.idS ?_); (refine EqE.fP ?_; (conv => whnf); fail_if_success (show forceL _ _)))
    | refine Cd.mk (Nat.le_of_ble_eq_true rfl) ?_)
  rfl
/-- A point lies in a square. -/
abbrev inB (c : Cq) (r : Dyadic) (d : Cq) : Prop := (c.1 - r ≤ d.1 ∧ d.1 ≤ c.1 + r) ∧ (c.2 - r ≤ d.2 ∧ d.2 ≤ c.2 + r)
abbrev bIn (c : Cq) (r : Dyadic) (d : Cq) (s : Dyadic) : Prop := (d.1 - s ≤ c.1 - r ∧ c.1 + r ≤ d.1 + s) ∧ (d.2 - s ≤ c.2 - r ∧ c.2 + r ≤ d.2 + s)
abbrev bTo (c : Cq) (r : Dyadic) (d : Cq) (s : Dyadic) : Prop := (mx (c.1 - r) (d.1 - s) ≤ mn (c.1 + r) (d.1 + s)) ∧ (mx (c.2 - r) (d.2 - s) ≤ mn (c.2 + r) (d.2 + s))
theorem rof_sq (p r : Dyadic) (h : 0 < r) : rof (p - r, p + r) = (p - r, p + r) := rof_self (by show p - r ≤ p + r; grind)
theorem bHas_is {x y : D} {c d : Cq} {h r : Dyadic} {t : Bool} (hx : BxR x c h) (hy : CxR y d) (hc : Hc 900000 c) (hh : Ht 900000 h) (hd : Hc 900000 d) (e : hf h = r) (ht : decide (inB c r d) = t) : Sim Tryz.prog G0 true 28 [x, y] (.bool t) := by
  subst ht
  have hr : Ht 900000 r := e ▸ ht_hf hh (by decide)
  have hp : 0 < r := e ▸ hf_pos h
  have s := bRect_is hx (hh.mono (by decide)) e rfl rfl
  have ha : Hc 1000000 (c.1 - r, c.1 + r) := ⟨hc.1.sub hr (by decide), hc.1.add hr (by decide)⟩
  have hb : Hc 1000000 (c.2 - r, c.2 + r) := ⟨hc.2.sub hr (by decide), hc.2.add hr (by decide)⟩
  have s2 := rtHas_is (.of (ha.mono (by decide)) (hb.mono (by decide))) hy ha hb (hd.mono (by decide)) rfl
  rw [rof_sq _ _ hp, rof_sq _ _ hp] at s2
  obtain ⟨_, _⟩ := hx
  obtain ⟨_, _⟩ := hy
  refine sim_mk tab_ok Tryz.func28 rfl (by kernel_rfl) rfl ⟨Nat.le_of_ble_eq_true rfl, Nat.le_of_ble_eq_true rfl⟩ ?_
  repeat' ((conv => whnf); first
    | refine CallE.mk _ _ (s) ?_
    | refine CallE.mk _ _ (s2) ?_
    | refine RegE.early (Cd.mk (show regOk _ _ _ _ = true by kernel_rfl) ?_)
    | refine Cd.mk rfl ?_
    | (refine TkE.fL ?_; (conv => whnf); fail_if_success (show forceL _ _))
    | refine Res.mk ?_)
  rfl
theorem bIn_is {x y : D} {c d : Cq} {h k r s : Dyadic} {t : Bool} (hx : BxR x c h) (hy : BxR y d k) (hc : Hc 900000 c) (hh : Ht 900000 h) (hd : Hc 900000 d) (hk : Ht 900000 k) (e : hf h = r) (e2 : hf k = s) (ht : decide (bIn c r d s) = t) : Sim Tryz.prog G0 true 37 [x, y] (.bool t) := by
  subst ht
  have hr : Ht 900000 r := e ▸ ht_hf hh (by decide)
  have hs : Ht 900000 s := e2 ▸ ht_hf hk (by decide)
  have hp : 0 < r := e ▸ hf_pos h
  have hq : 0 < s := e2 ▸ hf_pos k
  have s1 := bRect_is hx (hh.mono (by decide)) e rfl rfl
  have s2 := bRect_is hy (hk.mono (by decide)) e2 rfl rfl
  have ha : Hc 1000000 (c.1 - r, c.1 + r) := ⟨hc.1.sub hr (by decide), hc.1.add hr (by decide)⟩
  have hb : Hc 1000000 (c.2 - r, c.2 + r) := ⟨hc.2.sub hr (by decide), hc.2.add hr (by decide)⟩
  have ha' : Hc 1000000 (d.1 - s, d.1 + s) := ⟨hd.1.sub hs (by decide), hd.1.add hs (by decide)⟩
  have hb' : Hc 1000000 (d.2 - s, d.2 + s) := ⟨hd.2.sub hs (by decide), hd.2.add hs (by decide)⟩
  have s3 := rtIn_is (.of (ha.mono (by decide)) (hb.mono (by decide))) (.of (ha'.mono (by decide)) (hb'.mono (by decide))) ha hb ha' hb' rfl
  rw [rof_sq _ _ hp, rof_sq _ _ hp, rof_sq _ _ hq, rof_sq _ _ hq] at s3
  obtain ⟨_, _⟩ := hx
  obtain ⟨_, _⟩ := hy
  refine sim_mk tab_ok Tryz.func37 rfl (by kernel_rfl) rfl ⟨Nat.le_of_ble_eq_true rfl, Nat.le_of_ble_eq_true rfl⟩ ?_
  repeat' ((conv => whnf); first
    | refine CallE.mk _ _ (s1) ?_
    | refine CallE.mk _ _ (s2) ?_
    | refine CallE.mk _ _ (s3) ?_
    | refine RegE.early (Cd.mk (show regOk _ _ _ _ = true by kernel_rfl) ?_)
    | refine Cd.mk rfl ?_
    | (refine TkE.fL ?_; (conv => whnf); fail_if_success (show forceL _ _))
    | refine Res.mk ?_)
  rfl
theorem rmeet_t (a b c d : Cq) : (rmeet a b c d).2.2 = decide (mx a.1 c.1 ≤ mn a.2 c.2 ∧ mx b.1 d.1 ≤ mn b.2 d.2) := by
  unfold rmeet imeet
  by_cases h1 : mx a.1 c.1 ≤ mn a.2 c.2 <;> by_cases h2 : mx b.1 d.1 ≤ mn b.2 d.2
  · rw [if_pos h1, if_pos h2, decide_eq_true ⟨h1, h2⟩]; rfl
  · rw [if_pos h1, if_neg h2, decide_eq_false (fun g => h2 g.2)]; rfl
  · rw [if_neg h1, if_pos h2, decide_eq_false (fun g => h1 g.1)]; rfl
  · rw [if_neg h1, if_neg h2, decide_eq_false (fun g => h1 g.1)]; rfl
theorem bTouch_is {x y : D} {c d : Cq} {h k r s : Dyadic} {t : Bool} (hx : BxR x c h) (hy : BxR y d k) (hc : Hc 900000 c) (hh : Ht 900000 h) (hd : Hc 900000 d) (hk : Ht 900000 k) (e : hf h = r) (e2 : hf k = s) (ht : decide (bTo c r d s) = t) : Sim Tryz.prog G0 true 35 [x, y] (.bool t) := by
  subst ht
  have hr : Ht 900000 r := e ▸ ht_hf hh (by decide)
  have hs : Ht 900000 s := e2 ▸ ht_hf hk (by decide)
  have hp : 0 < r := e ▸ hf_pos h
  have hq : 0 < s := e2 ▸ hf_pos k
  have s1 := bRect_is hx (hh.mono (by decide)) e rfl rfl
  have s2 := bRect_is hy (hk.mono (by decide)) e2 rfl rfl
  have ha : Hc 1000000 (c.1 - r, c.1 + r) := ⟨hc.1.sub hr (by decide), hc.1.add hr (by decide)⟩
  have hb : Hc 1000000 (c.2 - r, c.2 + r) := ⟨hc.2.sub hr (by decide), hc.2.add hr (by decide)⟩
  have ha' : Hc 1000000 (d.1 - s, d.1 + s) := ⟨hd.1.sub hs (by decide), hd.1.add hs (by decide)⟩
  have hb' : Hc 1000000 (d.2 - s, d.2 + s) := ⟨hd.2.sub hs (by decide), hd.2.add hs (by decide)⟩
  obtain ⟨⟨u, v, t⟩, hm⟩ : ∃ m, rmeet (c.1 - r, c.1 + r) (c.2 - r, c.2 + r) (d.1 - s, d.1 + s) (d.2 - s, d.2 + s) = m := ⟨_, rfl⟩
  have s3 := rtMeet_is (r := u) (s := v) (t := t) (.of (ha.mono (by decide)) (hb.mono (by decide))) (.of (ha'.mono (by decide)) (hb'.mono (by decide))) ha hb ha' hb' (by
    rw [rof_sq _ _ hp, rof_sq _ _ hp, rof_sq _ _ hq, rof_sq _ _ hq]; exact hm)
  have ht := rmeet_t (c.1 - r, c.1 + r) (c.2 - r, c.2 + r) (d.1 - s, d.1 + s) (d.2 - s, d.2 + s)
  rw [hm] at ht
  dsimp only at ht
  obtain ⟨_, _⟩ := hx
  obtain ⟨_, _⟩ := hy
  refine sim_mk tab_ok Tryz.func35 rfl (by kernel_rfl) rfl ⟨Nat.le_of_ble_eq_true rfl, Nat.le_of_ble_eq_true rfl⟩ ?_
  repeat' ((conv => whnf); first
    | refine CallE.mk _ _ (s1) ?_
    | refine CallE.mk _ _ (s2) ?_
    | refine CallE.mk _ _ (s3) ?_
    | refine RegE.early (Cd.mk (show regOk _ _ _ _ = true by kernel_rfl) ?_)
    | refine Cd.mk rfl ?_
    | refine NthE.mk _ rfl ?_
    | (refine TkE.fL ?_; (conv => whnf); fail_if_success (show forceL _ _))
    | refine Res.mk ?_
    | ((with_reducible refine EqE.idS ?_); (refine EqE.fP ?_; (conv => whnf); fail_if_success (show forceL _ _)))
    | refine Cd.mk (Nat.le_of_ble_eq_true rfl) ?_)
  exact congrArg D.bool ht.symm
end Go.Ev.Ar

namespace Go.Ev.Ar
open Go Go.Ev Go.Proofs

/-- The four quarters, as they must be told. -/
def qsD (c : Cq) (s : Dyadic) : D := .agg [.bool (zneg (dman (c.1 + -s))), sl (ofN (dman (c.1 + -s)).natAbs), .int .i64 (dexp (c.1 + -s)), .bool (zneg (dman (c.2 + -s))), sl (ofN (dman (c.2 + -s)).natAbs), .int .i64 (dexp (c.2 + -s)), .bool (zneg (dman s)), sl (ofN (dman s).natAbs), .int .i64 (dexp s), .bool (zneg (dman (c.1 + s))), sl (ofN (dman (c.1 + s)).natAbs), .int .i64 (dexp (c.1 + s)), .bool (zneg (dman (c.2 + -s))), sl (ofN (dman (c.2 + -s)).natAbs), .int .i64 (dexp (c.2 + -s)), .bool (zneg (dman s)), sl (ofN (dman s).natAbs), .int .i64 (dexp s), .bool (zneg (dman (c.1 + -s))), sl (ofN (dman (c.1 + -s)).natAbs), .int .i64 (dexp (c.1 + -s)), .bool (zneg (dman (c.2 + s))), sl (ofN (dman (c.2 + s)).natAbs), .int .i64 (dexp (c.2 + s)), .bool (zneg (dman s)), sl (ofN (dman s).natAbs), .int .i64 (dexp s), .bool (zneg (dman (c.1 + s))), sl (ofN (dman (c.1 + s)).natAbs), .int .i64 (dexp (c.1 + s)), .bool (zneg (dman (c.2 + s))), sl (ofN (dman (c.2 + s)).natAbs), .int .i64 (dexp (c.2 + s)), .bool (zneg (dman s)), sl (ofN (dman s).natAbs), .int .i64 (dexp s)]
/-- The ways to the quarters' middles. -/
def wyD (s : Dyadic) : D := .agg [.bool (zneg (dman (-s))), sl (ofN (dman (-s)).natAbs), .int .i64 (dexp (-s)), .bool (zneg (dman (-s))), sl (ofN (dman (-s)).natAbs), .int .i64 (dexp (-s)), .bool (zneg (dman s)), sl (ofN (dman s).natAbs), .int .i64 (dexp s), .bool (zneg (dman (-s))), sl (ofN (dman (-s)).natAbs), .int .i64 (dexp (-s)), .bool (zneg (dman (-s))), sl (ofN (dman (-s)).natAbs), .int .i64 (dexp (-s)), .bool (zneg (dman s)), sl (ofN (dman s).natAbs), .int .i64 (dexp s), .bool (zneg (dman s)), sl (ofN (dman s).natAbs), .int .i64 (dexp s), .bool (zneg (dman s)), sl (ofN (dman s).natAbs), .int .i64 (dexp s)]
/-- The first i quarters' cells, the others nought. -/
def QCb (c : Cq) (s : Dyadic) : Nat → List A
  | 0 => [.d (.bool false), .d .nil, .d (.int .i64 0), .d (.bool false), .d .nil, .d (.int .i64 0), .d (.bool false), .d .nil, .d (.int .i64 0), .d (.bool false), .d .nil, .d (.int .i64 0), .d (.bool false), .d .nil, .d (.int .i64 0), .d (.bool false), .d .nil, .d (.int .i64 0), .d (.bool false), .d .nil, .d (.int .i64 0), .d (.bool false), .d .nil, .d (.int .i64 0), .d (.bool false), .d .nil, .d (.int .i64 0), .d (.bool false), .d .nil, .d (.int .i64 0), .d (.bool false), .d .nil, .d (.int .i64 0), .d (.bool false), .d .nil, .d (.int .i64 0)]
  | 1 => [.d (.bool (zneg (dman (c.1 + -s)))), .d (sl (ofN (dman (c.1 + -s)).natAbs)), .d (.int .i64 (dexp (c.1 + -s))), .d (.bool (zneg (dman (c.2 + -s)))), .d (sl (ofN (dman (c.2 + -s)).natAbs)), .d (.int .i64 (dexp (c.2 + -s))), .d (.bool (zneg (dman s))), .d (sl (ofN (dman s).natAbs)), .d (.int .i64 (dexp s)), .d (.bool false), .d .nil, .d (.int .i64 0), .d (.bool false), .d .nil, .d (.int .i64 0), .d (.bool false), .d .nil, .d (.int .i64 0), .d (.bool false), .d .nil, .d (.int .i64 0), .d (.bool false), .d .nil, .d (.int .i64 0), .d (.bool false), .d .nil, .d (.int .i64 0), .d (.bool false), .d .nil, .d (.int .i64 0), .d (.bool false), .d .nil, .d (.int .i64 0), .d (.bool false), .d .nil, .d (.int .i64 0)]
  | 2 => [.d (.bool (zneg (dman (c.1 + -s)))), .d (sl (ofN (dman (c.1 + -s)).natAbs)), .d (.int .i64 (dexp (c.1 + -s))), .d (.bool (zneg (dman (c.2 + -s)))), .d (sl (ofN (dman (c.2 + -s)).natAbs)), .d (.int .i64 (dexp (c.2 + -s))), .d (.bool (zneg (dman s))), .d (sl (ofN (dman s).natAbs)), .d (.int .i64 (dexp s)), .d (.bool (zneg (dman (c.1 + s)))), .d (sl (ofN (dman (c.1 + s)).natAbs)), .d (.int .i64 (dexp (c.1 + s))), .d (.bool (zneg (dman (c.2 + -s)))), .d (sl (ofN (dman (c.2 + -s)).natAbs)), .d (.int .i64 (dexp (c.2 + -s))), .d (.bool (zneg (dman s))), .d (sl (ofN (dman s).natAbs)), .d (.int .i64 (dexp s)), .d (.bool false), .d .nil, .d (.int .i64 0), .d (.bool false), .d .nil, .d (.int .i64 0), .d (.bool false), .d .nil, .d (.int .i64 0), .d (.bool false), .d .nil, .d (.int .i64 0), .d (.bool false), .d .nil, .d (.int .i64 0), .d (.bool false), .d .nil, .d (.int .i64 0)]
  | 3 => [.d (.bool (zneg (dman (c.1 + -s)))), .d (sl (ofN (dman (c.1 + -s)).natAbs)), .d (.int .i64 (dexp (c.1 + -s))), .d (.bool (zneg (dman (c.2 + -s)))), .d (sl (ofN (dman (c.2 + -s)).natAbs)), .d (.int .i64 (dexp (c.2 + -s))), .d (.bool (zneg (dman s))), .d (sl (ofN (dman s).natAbs)), .d (.int .i64 (dexp s)), .d (.bool (zneg (dman (c.1 + s)))), .d (sl (ofN (dman (c.1 + s)).natAbs)), .d (.int .i64 (dexp (c.1 + s))), .d (.bool (zneg (dman (c.2 + -s)))), .d (sl (ofN (dman (c.2 + -s)).natAbs)), .d (.int .i64 (dexp (c.2 + -s))), .d (.bool (zneg (dman s))), .d (sl (ofN (dman s).natAbs)), .d (.int .i64 (dexp s)), .d (.bool (zneg (dman (c.1 + -s)))), .d (sl (ofN (dman (c.1 + -s)).natAbs)), .d (.int .i64 (dexp (c.1 + -s))), .d (.bool (zneg (dman (c.2 + s)))), .d (sl (ofN (dman (c.2 + s)).natAbs)), .d (.int .i64 (dexp (c.2 + s))), .d (.bool (zneg (dman s))), .d (sl (ofN (dman s).natAbs)), .d (.int .i64 (dexp s)), .d (.bool false), .d .nil, .d (.int .i64 0), .d (.bool false), .d .nil, .d (.int .i64 0), .d (.bool false), .d .nil, .d (.int .i64 0)]
  | _ => [.d (.bool (zneg (dman (c.1 + -s)))), .d (sl (ofN (dman (c.1 + -s)).natAbs)), .d (.int .i64 (dexp (c.1 + -s))), .d (.bool (zneg (dman (c.2 + -s)))), .d (sl (ofN (dman (c.2 + -s)).natAbs)), .d (.int .i64 (dexp (c.2 + -s))), .d (.bool (zneg (dman s))), .d (sl (ofN (dman s).natAbs)), .d (.int .i64 (dexp s)), .d (.bool (zneg (dman (c.1 + s)))), .d (sl (ofN (dman (c.1 + s)).natAbs)), .d (.int .i64 (dexp (c.1 + s))), .d (.bool (zneg (dman (c.2 + -s)))), .d (sl (ofN (dman (c.2 + -s)).natAbs)), .d (.int .i64 (dexp (c.2 + -s))), .d (.bool (zneg (dman s))), .d (sl (ofN (dman s).natAbs)), .d (.int .i64 (dexp s)), .d (.bool (zneg (dman (c.1 + -s)))), .d (sl (ofN (dman (c.1 + -s)).natAbs)), .d (.int .i64 (dexp (c.1 + -s))), .d (.bool (zneg (dman (c.2 + s)))), .d (sl (ofN (dman (c.2 + s)).natAbs)), .d (.int .i64 (dexp (c.2 + s))), .d (.bool (zneg (dman s))), .d (sl (ofN (dman s).natAbs)), .d (.int .i64 (dexp s)), .d (.bool (zneg (dman (c.1 + s)))), .d (sl (ofN (dman (c.1 + s)).natAbs)), .d (.int .i64 (dexp (c.1 + s))), .d (.bool (zneg (dman (c.2 + s)))), .d (sl (ofN (dman (c.2 + s)).natAbs)), .d (.int .i64 (dexp (c.2 + s))), .d (.bool (zneg (dman s))), .d (sl (ofN (dman s).natAbs)), .d (.int .i64 (dexp s))]
def qw (s : Dyadic) : Nat → Cq
  | 0 => (-s, -s)
  | 1 => (s, -s)
  | 2 => (-s, s)
  | _ => (s, s)
def qk (c : Cq) (s : Dyadic) (k : Nat) : Cq := (c.1 + (qw s k).1, c.2 + (qw s k).2)
set_option maxHeartbeats 2000000 in
theorem quarters_is {x : D} {c : Cq} {h r s : Dyadic} (hx : BxR x c h) (hc : Hc 900000 c) (hh : Ht 400000 h) (e : hf h = r) (es : r * dof 1 (-1) = s) : Sim Tryz.prog G0 false 19 [x] (qsD c s) := by
  have hr : Ht 400000 r := e ▸ ht_hf hh (by decide)
  have hs : Ht 400164 s := es ▸ hr.mul (Ht.cst (m := 1) (e := -1) (by decide)) (by decide)
  have sh := half_is hx e
  have s1 := dscale_sim (-1) (DyR.of (hr.mono (by decide)))
  rw [show min (max (-1) (-20000)) 20000 = -1 by decide, es] at s1
  have s2 := dneg_sim (DyR.of (hs.mono (b := 1048576) (by decide)))
  have hs' := hs.mono (b := 1048576) (by decide)
  have hw : ∀ k, Hc 1048576 (qw s k) := fun k => by
    unfold qw; split
    · exact ⟨hs'.neg, hs'.neg⟩
    · exact ⟨hs', hs'.neg⟩
    · exact ⟨hs'.neg, hs'⟩
    · exact ⟨hs', hs'⟩
  obtain ⟨h1, h2⟩ := hx
  rename_i b l e1 c1 k f b1 l1 e2
  have ga : ∀ k, Sim Tryz.prog G0 false 130 [_, cxD (qw s k)] (cxD (qk c s k)) := fun k => gAdd_is h1 (.of (hw k)) rfl
  have g0 := ga 0
  have g1 := ga 1
  have g2 := ga 2
  have g3 := ga 3
  refine sim_mk tab_ok Tryz.func19 rfl (by kernel_rfl) rfl ⟨Nat.le_of_ble_eq_true rfl, Nat.le_of_ble_eq_true rfl⟩ ?_
  repeat' ((conv => whnf); first
    | with_reducible refine CallX.data ?_
    | refine CallE.mk _ _ (sh) ?_
    | refine CallE.mk _ _ (s1) ?_
    | refine CallE.mk _ _ (s2) ?_
    | refine RegE.early (Cd.mk (show regOk _ _ _ _ = true by kernel_rfl) ?_)
    | refine Cd.mk rfl ?_
    | (refine TkE.fL ?_; (conv => whnf); fail_if_success (show forceL _ _))
    | ((with_reducible refine EqE.idS ?_); (refine EqE.fP ?_; (conv => whnf); fail_if_success (show forceL _ _)))
    | refine Cd.mk (Nat.le_of_ble_eq_true rfl) ?_)
  refine ⟨[], [1, 2, 3, 6, 27, 28], [1, 2, 3, 6], fun m xs h => ∃ i : Nat, m = 4 - i ∧ i ≤ 4 ∧
      xs = [.ptr 1 0, .ptr 2 0, .ptr 3 0, .ptr 6 0, .d (wyD s), .d (.int .i64 (i : Nat))] ∧ h = [(6, false, QCb c s i), (3, false, dyC s), (2, false, QCb c s 0), (1, false, [.d (.bool b), .d (sl l), .d (.int .i64 e1), .d (.bool c1), .d (sl k), .d (.int .i64 f), .d (.bool b1), .d (sl l1), .d (.int .i64 e2)])],
    ⟨_, _, _, ⟨.inl rfl, rfl, rfl, by first | rfl | (repeat first | exact all_nil _ | refine all_la _ _ _ _ _ ?_)⟩, 0, rfl, by decide, rfl, rfl⟩, ?_⟩
  rintro m xs h ⟨i, rfl, hi4, rfl, rfl⟩
  have i4 : i = 0 ∨ i = 1 ∨ i = 2 ∨ i = 3 ∨ i = 4 := by omega
  rcases i4 with rfl | rfl | rfl | rfl | rfl
  · repeat' ((conv => whnf); first
      | refine CallE.mk _ _ (g0) ?_
      | refine RegE.early (Cd.mk (show regOk _ _ _ _ = true by kernel_rfl) ?_)
      | refine Cd.mk rfl ?_
      | refine Br.t ?_
      | (refine TkE.fL ?_; (conv => whnf); fail_if_success (show forceL _ _))
      | refine LoopEnd.go _ _ ⟨.inl rfl, rfl, rfl, by first | rfl | (repeat first | exact all_nil _ | refine all_la _ _ _ _ _ ?_)⟩ ?_
      | ((with_reducible refine EqE.idW ?_); with_reducible refine EqE.mk _ (n_succ _ (by omega)) ?_)
      | ((with_reducible refine EqE.idS ?_); (refine EqE.fP ?_; (conv => whnf); fail_if_success (show forceL _ _)))
      | refine Cd.mk (Nat.le_of_ble_eq_true rfl) ?_
      | refine Cd.mk (by first | omega | (simp only [length_limbs, length_la]; omega)) ?_)
    exact ⟨_, ⟨1, rfl, by decide, rfl, rfl⟩, by decide⟩
  · repeat' ((conv => whnf); first
      | refine CallE.mk _ _ (g1) ?_
      | refine RegE.early (Cd.mk (show regOk _ _ _ _ = true by kernel_rfl) ?_)
      | refine Cd.mk rfl ?_
      | refine Br.t ?_
      | (refine TkE.fL ?_; (conv => whnf); fail_if_success (show forceL _ _))
      | refine LoopEnd.go _ _ ⟨.inl rfl, rfl, rfl, by first | rfl | (repeat first | exact all_nil _ | refine all_la _ _ _ _ _ ?_)⟩ ?_
      | ((with_reducible refine EqE.idW ?_); with_reducible refine EqE.mk _ (n_succ _ (by omega)) ?_)
      | ((with_reducible refine EqE.idS ?_); (refine EqE.fP ?_; (conv => whnf); fail_if_success (show forceL _ _)))
      | refine Cd.mk (Nat.le_of_ble_eq_true rfl) ?_
      | refine Cd.mk (by first | omega | (simp only [length_limbs, length_la]; omega)) ?_)
    exact ⟨_, ⟨2, rfl, by decide, rfl, rfl⟩, by decide⟩
  · repeat' ((conv => whnf); first
      | refine CallE.mk _ _ (g2) ?_
      | refine RegE.early (Cd.mk (show regOk _ _ _ _ = true by kernel_rfl) ?_)
      | refine Cd.mk rfl ?_
      | refine Br.t ?_
      | (refine TkE.fL ?_; (conv => whnf); fail_if_success (show forceL _ _))
      | refine LoopEnd.go _ _ ⟨.inl rfl, rfl, rfl, by first | rfl | (repeat first | exact all_nil _ | refine all_la _ _ _ _ _ ?_)⟩ ?_
      | ((with_reducible refine EqE.idW ?_); with_reducible refine EqE.mk _ (n_succ _ (by omega)) ?_)
      | ((with_reducible refine EqE.idS ?_); (refine EqE.fP ?_; (conv => whnf); fail_if_success (show forceL _ _)))
      | refine Cd.mk (Nat.le_of_ble_eq_true rfl) ?_
      | refine Cd.mk (by first | omega | (simp only [length_limbs, length_la]; omega)) ?_)
    exact ⟨_, ⟨3, rfl, by decide, rfl, rfl⟩, by decide⟩
  · repeat' ((conv => whnf); first
      | refine CallE.mk _ _ (g3) ?_
      | refine RegE.early (Cd.mk (show regOk _ _ _ _ = true by kernel_rfl) ?_)
      | refine Cd.mk rfl ?_
      | refine Br.t ?_
      | (refine TkE.fL ?_; (conv => whnf); fail_if_success (show forceL _ _))
      | refine LoopEnd.go _ _ ⟨.inl rfl, rfl, rfl, by first | rfl | (repeat first | exact all_nil _ | refine all_la _ _ _ _ _ ?_)⟩ ?_
      | ((with_reducible refine EqE.idW ?_); with_reducible refine EqE.mk _ (n_succ _ (by omega)) ?_)
      | ((with_reducible refine EqE.idS ?_); (refine EqE.fP ?_; (conv => whnf); fail_if_success (show forceL _ _)))
      | refine Cd.mk (Nat.le_of_ble_eq_true rfl) ?_
      | refine Cd.mk (by first | omega | (simp only [length_limbs, length_la]; omega)) ?_)
    exact ⟨_, ⟨4, rfl, by decide, rfl, rfl⟩, by decide⟩
  · repeat' ((conv => whnf); first
      | refine RegE.early (Cd.mk (show regOk _ _ _ _ = true by kernel_rfl) ?_)
      | refine Cd.mk rfl ?_
      | refine Br.f ?_
      | (refine TkE.fL ?_; (conv => whnf); fail_if_success (show forceL _ _))
      | refine Res.mk ?_
      | ((with_reducible refine EqE.idS ?_); (refine EqE.fP ?_; (conv => whnf); fail_if_success (show forceL _ _)))
      | refine Cd.mk (Nat.le_of_ble_eq_true rfl) ?_)
    rfl
end Go.Ev.Ar

namespace Go.Ev.Ar
open Go Go.Ev Go.Proofs

theorem few16_sim (b : Bool) (l : List UInt32) (e : Int) : Sim Tryz.prog G0 true 125 [.agg [.bool b, sl l, .int .i64 e]] (.bool (fewD 10 1000 l e)) := by
  refine sim_mk tab_ok Tryz.func125 rfl (by kernel_rfl) rfl ⟨Nat.le_of_ble_eq_true rfl, Nat.le_of_ble_eq_true rfl⟩ ?_
  repeat' ((conv => whnf); first
    | refine RegE.early (Cd.mk (show regOk _ _ _ _ = true by kernel_rfl) ?_)
    | refine Cd.mk rfl ?_
    | refine Br.t ?_
    | refine Br.f ?_
    | with_reducible refine Br.dec (fun _ => ?_) (fun _ => ?_)
    | refine NthE.mk _ rfl ?_
    | refine Res.mk ?_)
  · rename_i h1 h2
    show D.bool _ = D.bool _
    congr 1
    unfold fewD
    rw [decide_eq_true (show l.length ≤ 10 by omega), decide_eq_true (show -1000 ≤ e by omega)]; rfl
  · rename_i h1 h2
    show D.bool _ = D.bool _
    rw [fewD_false (by omega)]
  · rename_i h1
    show D.bool _ = D.bool _
    rw [fewD_false (by omega)]
theorem fewcplx16_sim (r : RC) : Sim Tryz.prog G0 true 15 [.agg r.cells] (.bool (r.few 10 1000)) := by
  obtain ⟨b, l, e, c, k, f⟩ := r
  refine sim_mk tab_ok Tryz.func15 rfl (by kernel_rfl) rfl ⟨Nat.le_of_ble_eq_true rfl, Nat.le_of_ble_eq_true rfl⟩ ?_
  repeat' ((conv => whnf); first
    | with_reducible refine CallX.data ?_
    | refine CallE.mk _ _ (few16_sim _ _ _) ?_
    | refine RegE.early (Cd.mk (show regOk _ _ _ _ = true by kernel_rfl) ?_)
    | refine Cd.mk rfl ?_
    | refine Br.t ?_
    | refine Br.f ?_
    | refine Br.mk (fun _ => ?_) (fun _ => ?_)
    | (refine TkE.fL ?_; (conv => whnf); fail_if_success (show forceL _ _))
    | refine Res.mk ?_)
  all_goals
    rename_i h
    show D.bool (_ && _) = D.bool _
    rw [h]; rfl
def bcell (r : RC) (b : Bool) (l : List UInt32) (e : Int) : D := .agg (r.cells ++ [.bool b, sl l, .int .i64 e])
theorem fewbox_sim (r : RC) (b : Bool) (l : List UInt32) (e : Int) : Sim Tryz.prog G0 true 14 [bcell r b l e] (.bool (r.few 10 1000 && fewD 10 1000 l e)) := by
  have s := fewcplx16_sim r
  obtain ⟨b', l', e', c', k', f'⟩ := r
  refine sim_mk tab_ok Tryz.func14 rfl (by kernel_rfl) rfl ⟨Nat.le_of_ble_eq_true rfl, Nat.le_of_ble_eq_true rfl⟩ ?_
  repeat' ((conv => whnf); first
    | with_reducible refine CallX.data ?_
    | refine CallE.mk _ _ (s) ?_
    | refine CallE.mk _ _ (few16_sim _ _ _) ?_
    | refine RegE.early (Cd.mk (show regOk _ _ _ _ = true by kernel_rfl) ?_)
    | refine Cd.mk rfl ?_
    | refine Br.t ?_
    | refine Br.f ?_
    | refine Br.mk (fun _ => ?_) (fun _ => ?_)
    | (refine TkE.fL ?_; (conv => whnf); fail_if_success (show forceL _ _))
    | refine Res.mk ?_)
  all_goals
    rename_i h
    show D.bool (_ && _) = D.bool _
    rw [h]; rfl
/-- Data of few limbs that means a square. -/
inductive BxF : D → Cq → Dyadic → Prop where
  | mk {b : Bool} {l : List UInt32} {e : Int} {c : Bool} {k : List UInt32} {f : Int} {b' : Bool} {l' : List UInt32} {e' : Int} {z : Cq} {h : Dyadic}
    (h1 : CxF (.agg [.bool b, sl l, .int .i64 e, .bool c, sl k, .int .i64 f]) z) (h2 : DyF (.agg [.bool b', sl l', .int .i64 e']) h) :
    BxF (.agg [.bool b, sl l, .int .i64 e, .bool c, sl k, .int .i64 f, .bool b', sl l', .int .i64 e']) z h
theorem rBox_is {x : D} {c : Cq} {h r : Dyadic} (hx : BxF x c h) (hh : Ht 40000 h) (e : hf h = r) : Sim Tryz.prog G0 false 16 [x] (bxD c r) := by
  subst e
  obtain ⟨h1, h2⟩ := hx
  have s := rcplx_sim h1
  have ha : Ht 40000 (dabs h) := hh.abs
  refine sim_mk tab_ok Tryz.func16 rfl (by kernel_rfl) rfl ⟨Nat.le_of_ble_eq_true rfl, Nat.le_of_ble_eq_true rfl⟩ ?_
  repeat' ((conv => whnf); first
    | with_reducible refine CallX.data ?_
    | refine CallE.mk _ _ (rExact_sim h2) ?_
    | refine CallE.mk _ _ (rdabs_sim (hh.mono (by decide))) ?_
    | refine CallE.mk _ _ (rdsign_sim (ha.mono (by decide))) ?_
    | refine CallE.mk _ _ (rofd_sim 1 (by decide) (by decide)) ?_
    | refine CallE.mk _ _ (s) ?_
    | refine RegE.early (Cd.mk (show regOk _ _ _ _ = true by kernel_rfl) ?_)
    | refine Cd.mk rfl ?_
    | with_reducible refine Br.dec (fun _ => ?_) (fun _ => ?_)
    | (refine TkE.fL ?_; (conv => whnf); fail_if_success (show forceL _ _))
    | refine Res.mk ?_
    | ((with_reducible refine EqE.idS ?_); (refine EqE.fP ?_; (conv => whnf); fail_if_success (show forceL _ _)))
    | refine Cd.mk (Nat.le_of_ble_eq_true rfl) ?_)
  · rename_i g
    have g' : h = 0 := by
      have g := dsg_eq.1 g
      rw [dabs_eq] at g; split at g <;> grind
    unfold hf; rw [if_pos g']; rfl
  · rename_i g
    have g' : ¬ h = 0 := fun k => g (by rw [k]; decide)
    unfold hf; rw [if_neg g']; rfl
theorem requal8_is {a b : Cq} {t : Bool} (ha : Hc 50000 a) (hb : Hc 50000 b) (h : decide (a = b) = t) : Sim Tryz.prog G0 true 116 [cxD a, cxD b] (.bool t) := by
  subst h
  refine sim_mk tab_ok Tryz.func116 rfl (by kernel_rfl) rfl ⟨Nat.le_of_ble_eq_true rfl, Nat.le_of_ble_eq_true rfl⟩ ?_
  repeat' ((conv => whnf); first
    | with_reducible refine CallX.data ?_
    | refine CallE.mk _ _ (requal_sim ha.1 hb.1) ?_
    | refine CallE.mk _ _ (requal_sim ha.2 hb.2) ?_
    | refine RegE.early (Cd.mk (show regOk _ _ _ _ = true by kernel_rfl) ?_)
    | refine Cd.mk rfl ?_
    | refine Br.t ?_
    | refine Br.f ?_
    | with_reducible refine Br.dec (fun _ => ?_) (fun _ => ?_)
    | (refine TkE.fL ?_; (conv => whnf); fail_if_success (show forceL _ _))
    | refine Res.mk ?_)
  · rename_i h
    refine congrArg D.bool (decide_eq_decide.2 ?_)
    rw [Prod.ext_iff]; exact ⟨fun g => g.2, fun g => ⟨h, g⟩⟩
  · rename_i h
    exact congrArg D.bool (decide_eq_false fun g => h (by rw [g]))
theorem eqbox_is {a b : Cq} {h k : Dyadic} {t : Bool} (ha : Hc 50000 a) (hb : Hc 50000 b) (hh : Ht 50000 h) (hk : Ht 50000 k) (g : decide (a = b ∧ h = k) = t) : Sim Tryz.prog G0 true 21 [bxD a h, bxD b k] (.bool t) := by
  subst g
  refine sim_mk tab_ok Tryz.func21 rfl (by kernel_rfl) rfl ⟨Nat.le_of_ble_eq_true rfl, Nat.le_of_ble_eq_true rfl⟩ ?_
  repeat' ((conv => whnf); first
    | with_reducible refine CallX.data ?_
    | refine CallE.mk _ _ (requal8_is ha hb rfl) ?_
    | refine CallE.mk _ _ (requal_sim hh hk) ?_
    | refine RegE.early (Cd.mk (show regOk _ _ _ _ = true by kernel_rfl) ?_)
    | refine Cd.mk rfl ?_
    | refine Br.t ?_
    | refine Br.f ?_
    | with_reducible refine Br.dec (fun _ => ?_) (fun _ => ?_)
    | (refine TkE.fL ?_; (conv => whnf); fail_if_success (show forceL _ _))
    | refine Res.mk ?_)
  · rename_i h
    refine congrArg D.bool (decide_eq_decide.2 ?_)
    exact ⟨fun g => g.2, fun g => ⟨h, g⟩⟩
  · rename_i h
    exact congrArg D.bool (decide_eq_false fun g => h g.1)
theorem eqdisc_is {a b : Cq} {h k : Dyadic} {t : Bool} (ha : Hc 50000 a) (hb : Hc 50000 b) (hh : Ht 50000 h) (hk : Ht 50000 k) (g : decide (a = b ∧ h = k) = t) : Sim Tryz.prog G0 true 33 [bxD a h, bxD b k] (.bool t) := by
  subst g
  refine sim_mk tab_ok Tryz.func33 rfl (by kernel_rfl) rfl ⟨Nat.le_of_ble_eq_true rfl, Nat.le_of_ble_eq_true rfl⟩ ?_
  repeat' ((conv => whnf); first
    | with_reducible refine CallX.data ?_
    | refine CallE.mk _ _ (requal8_is ha hb rfl) ?_
    | refine CallE.mk _ _ (requal_sim hh hk) ?_
    | refine RegE.early (Cd.mk (show regOk _ _ _ _ = true by kernel_rfl) ?_)
    | refine Cd.mk rfl ?_
    | refine Br.t ?_
    | refine Br.f ?_
    | with_reducible refine Br.dec (fun _ => ?_) (fun _ => ?_)
    | (refine TkE.fL ?_; (conv => whnf); fail_if_success (show forceL _ _))
    | refine Res.mk ?_)
  · rename_i h
    refine congrArg D.bool (decide_eq_decide.2 ?_)
    exact ⟨fun g => g.2, fun g => ⟨h, g⟩⟩
  · rename_i h
    exact congrArg D.bool (decide_eq_false fun g => h g.1)
theorem mul_one0 (p : Dyadic) : p * dof 1 (min (max 0 (-20000)) 20000) = p := by
  rw [show dof 1 (min (max 0 (-20000)) 20000) = 1 by decide, Dyadic.mul_one]
theorem bDisc_is {x : D} {c : Cq} {h r s : Dyadic} (hx : BxR x c h) (hh : Ht 400000 h) (e : hf h = r) (es : r * dof 3 0 * dof 1 (-1) = s) : Sim Tryz.prog G0 false 34 [x] (bxD c s) := by
  have hr : Ht 400000 r := e ▸ ht_hf hh (by decide)
  have sh := half_is hx e
  have s1 := dmul_sim (DyR.of (hr.mono (b := 1048576) (by decide))) (DyR.of ((Ht.cst (m := 3) (e := 0) (by decide)).mono (b := 1048576) (by decide)))
  have s2 := dscale_sim (-1) (DyR.of ((hr.mul (Ht.cst (m := 3) (e := 0) (by decide)) (Nat.le_refl _)).mono (b := 1048576) (by decide)))
  rw [show min (max (-1) (-20000)) 20000 = -1 by decide, es] at s2
  obtain ⟨h1, h2⟩ := hx
  have s3 := gScale_is 0 h1 (r := c) (by rw [mul_one0, mul_one0])
  refine sim_mk tab_ok Tryz.func34 rfl (by kernel_rfl) rfl ⟨Nat.le_of_ble_eq_true rfl, Nat.le_of_ble_eq_true rfl⟩ ?_
  repeat' ((conv => whnf); first
    | refine CallE.mk _ _ (s3) ?_
    | refine CallE.mk _ _ (sh) ?_
    | refine CallE.mk _ _ (dofn_sim 3 (by decide) (by decide)) ?_
    | refine CallE.mk _ _ (s1) ?_
    | refine CallE.mk _ _ (s2) ?_
    | refine RegE.early (Cd.mk (show regOk _ _ _ _ = true by kernel_rfl) ?_)
    | refine Cd.mk rfl ?_
    | (refine TkE.fL ?_; (conv => whnf); fail_if_success (show forceL _ _))
    | refine Res.mk ?_
    | ((with_reducible refine EqE.idS ?_); (refine EqE.fP ?_; (conv => whnf); fail_if_success (show forceL _ _)))
    | refine Cd.mk (Nat.le_of_ble_eq_true rfl) ?_)
  rfl
theorem bDouble_is {x : D} {c : Cq} {h r s : Dyadic} (hx : BxR x c h) (hh : Ht 400000 h) (e : hf h = r) (es : r * dof 1 1 = s) : Sim Tryz.prog G0 false 39 [x] (bxD c s) := by
  have hr : Ht 400000 r := e ▸ ht_hf hh (by decide)
  have sh := half_is hx e
  have s2 := dscale_sim 1 (DyR.of (hr.mono (b := 1048576) (by decide)))
  rw [show min (max 1 (-20000)) 20000 = 1 by decide, es] at s2
  obtain ⟨h1, h2⟩ := hx
  have s3 := gScale_is 0 h1 (r := c) (by rw [mul_one0, mul_one0])
  refine sim_mk tab_ok Tryz.func39 rfl (by kernel_rfl) rfl ⟨Nat.le_of_ble_eq_true rfl, Nat.le_of_ble_eq_true rfl⟩ ?_
  repeat' ((conv => whnf); first
    | refine CallE.mk _ _ (s3) ?_
    | refine CallE.mk _ _ (sh) ?_
    | refine CallE.mk _ _ (s2) ?_
    | refine RegE.early (Cd.mk (show regOk _ _ _ _ = true by kernel_rfl) ?_)
    | refine Cd.mk rfl ?_
    | (refine TkE.fL ?_; (conv => whnf); fail_if_success (show forceL _ _))
    | refine Res.mk ?_
    | ((with_reducible refine EqE.idS ?_); (refine EqE.fP ?_; (conv => whnf); fail_if_success (show forceL _ _)))
    | refine Cd.mk (Nat.le_of_ble_eq_true rfl) ?_)
  rfl
theorem bSame_is {x y : D} {c d : Cq} {h k r s : Dyadic} {t : Bool} (hx : BxR x c h) (hy : BxR y d k) (hc : Hc 400000 c) (hh : Ht 400000 h) (hd : Hc 400000 d) (hk : Ht 400000 k) (e : hf h = r) (e2 : hf k = s) (g : decide (c = d ∧ r = s) = t) : Sim Tryz.prog G0 true 40 [x, y] (.bool t) := by
  subst g
  have hr : Ht 400000 r := e ▸ ht_hf hh (by decide)
  have hs : Ht 400000 s := e2 ▸ ht_hf hk (by decide)
  have s1 := half_is hx e
  have s2 := half_is hy e2
  have s4 := dsame_sim (DyR.of (hr.mono (b := 1048576) (by decide))) (DyR.of (hs.mono (b := 1048576) (by decide))) (hr.sub hs (by decide))
  obtain ⟨h1, h2⟩ := hx
  obtain ⟨h3, h4⟩ := hy
  have s3 := gSame_is h1 h3 (hc.mono (by decide)) (hd.mono (by decide)) rfl
  refine sim_mk tab_ok Tryz.func40 rfl (by kernel_rfl) rfl ⟨Nat.le_of_ble_eq_true rfl, Nat.le_of_ble_eq_true rfl⟩ ?_
  repeat' ((conv => whnf); first
    | refine CallE.mk _ _ (s3) ?_
    | refine CallE.mk _ _ (s1) ?_
    | refine CallE.mk _ _ (s2) ?_
    | refine CallE.mk _ _ (s4) ?_
    | refine RegE.early (Cd.mk (show regOk _ _ _ _ = true by kernel_rfl) ?_)
    | refine Cd.mk rfl ?_
    | refine Br.t ?_
    | refine Br.f ?_
    | with_reducible refine Br.dec (fun _ => ?_) (fun _ => ?_)
    | (refine TkE.fL ?_; (conv => whnf); fail_if_success (show forceL _ _))
    | refine Res.mk ?_)
  · rename_i h
    refine congrArg D.bool (decide_eq_decide.2 ?_)
    exact ⟨fun g => g.2, fun g => ⟨h, g⟩⟩
  · rename_i h
    exact congrArg D.bool (decide_eq_false fun g => h g.1)
theorem bIs_is {x : D} {c : Cq} {h : Dyadic} {t : Bool} (hx : BxR x c h) (g : decide (0 < h) = t) : Sim Tryz.prog G0 true 25 [x] (.bool t) := by
  subst g
  obtain ⟨h1, h2⟩ := hx
  refine sim_mk tab_ok Tryz.func25 rfl (by kernel_rfl) rfl ⟨Nat.le_of_ble_eq_true rfl, Nat.le_of_ble_eq_true rfl⟩ ?_
  repeat' ((conv => whnf); first
    | with_reducible refine CallX.data ?_
    | refine CallE.mk _ _ (dsign_sim h2) ?_
    | refine RegE.early (Cd.mk (show regOk _ _ _ _ = true by kernel_rfl) ?_)
    | refine Cd.mk rfl ?_
    | (refine TkE.fL ?_; (conv => whnf); fail_if_success (show forceL _ _))
    | refine Res.mk ?_)
  exact congrArg D.bool (decide_eq_decide.2 dsg_gt.symm)
theorem of16_is (m n k : Int) (h1 : m.natAbs ≤ 8) (h2 : n.natAbs ≤ 8) (h3 : k.natAbs ≤ 8) : Sim Tryz.prog G0 false 123 [.int .i64 m, .int .i64 n, .int .i64 k] (bxD (dof m 0, dof n 0) (dof k 0)) := by
  refine sim_mk tab_ok Tryz.func123 rfl (by kernel_rfl) rfl ⟨Nat.le_of_ble_eq_true rfl, Nat.le_of_ble_eq_true rfl⟩ ?_
  repeat' ((conv => whnf); first
    | with_reducible refine CallX.data ?_
    | refine CallE.mk _ _ (rof_sim m n (by omega) (by omega) (by omega) (by omega)) ?_
    | refine CallE.mk _ _ (rofd_sim k (by omega) (by omega)) ?_
    | refine RegE.early (Cd.mk (show regOk _ _ _ _ = true by kernel_rfl) ?_)
    | refine Cd.mk rfl ?_
    | (refine TkE.fL ?_; (conv => whnf); fail_if_success (show forceL _ _))
    | refine Res.mk ?_
    | ((with_reducible refine EqE.idS ?_); (refine EqE.fP ?_; (conv => whnf); fail_if_success (show forceL _ _)))
    | refine Cd.mk (Nat.le_of_ble_eq_true rfl) ?_)
  rfl
end Go.Ev.Ar

namespace Go.Ev.Ar
open Go Go.Ev Go.Proofs

def k0 : Cq := (dof 0 0, dof 0 0)
theorem hd {m : Int} (h : m.natAbs ≤ 8 := by decide) : Ht 50000 (dof m 0) := (ht_one m h).mono (by decide)
theorem hcd {m n : Int} (h : m.natAbs ≤ 8 := by decide) (h2 : n.natAbs ≤ 8 := by decide) : Hc 50000 (dof m 0, dof n 0) := (hc_kz h h2).mono (by decide)
theorem hq : ∀ k, Hc 50000 (qk k0 (dof 1 0) k)
  | 0 => by rw [show qk k0 (dof 1 0) 0 = (dof (-1) 0, dof (-1) 0) by decide]; exact hcd
  | 1 => by rw [show qk k0 (dof 1 0) 1 = (dof 1 0, dof (-1) 0) by decide]; exact hcd
  | 2 => by rw [show qk k0 (dof 1 0) 2 = (dof (-1) 0, dof 1 0) by decide]; exact hcd
  | n + 3 => by rw [show qk k0 (dof 1 0) (n + 3) = (dof 1 0, dof 1 0) by show qk k0 (dof 1 0) 3 = _; decide]; exact hcd
theorem bxk {m n k : Int} (h : m.natAbs ≤ 8 := by decide) (h2 : n.natAbs ≤ 8 := by decide) (h3 : k.natAbs ≤ 8 := by decide) : BxR (bxD (dof m 0, dof n 0) (dof k 0)) (dof m 0, dof n 0) (dof k 0) := .of ((hcd h h2).mono (by decide)) ((hd h3).mono (by decide))
theorem bxq (k : Nat) : BxR (bxD (qk k0 (dof 1 0) k) (dof 1 0)) (qk k0 (dof 1 0) k) (dof 1 0) := .of ((hq k).mono (by decide)) ((hd (m := 1)).mono (by decide))
theorem dc0 (k : Dyadic) : D.agg [.bool false, sl [], .int .i64 0, .bool false, sl [], .int .i64 0, .bool (zneg (dman k)), sl (ofN (dman k).natAbs), .int .i64 (dexp k)] = bxD (0, 0) k := by
  show _ = D.agg [.bool _, sl (ofN 0), .int .i64 _, .bool _, sl (ofN 0), .int .i64 _, _, _, _]
  rw [ofN_zero]; rfl
theorem kb_q : Sim Tryz.prog G0 false 19 [bxD k0 (dof 2 0)] (qsD k0 (dof 1 0)) := quarters_is (r := dof 2 0) bxk (Hc.mono hcd (by decide)) (Ht.mono hd (by decide)) (by decide) (by decide)
theorem kb_is : Sim Tryz.prog G0 true 25 [bxD k0 (dof 2 0)] (.bool true) := bIs_is bxk (by decide)
theorem kb_isn : Sim Tryz.prog G0 true 25 [bxD k0 (dof 0 0)] (.bool false) := bIs_is bxk (by decide)
theorem kb_has : Sim Tryz.prog G0 true 28 [bxD k0 (dof 2 0), cxD (dof 2 0, dof 2 0)] (.bool true) := bHas_is (r := dof 2 0) bxk (kx (m := 2) (n := 2) (by decide) (by decide)) (Hc.mono hcd (by decide)) (Ht.mono hd (by decide)) (Hc.mono hcd (by decide)) (by decide) (by decide)
theorem kb_e0 : Sim Tryz.prog G0 true 21 [bxD (qk k0 (dof 1 0) 0) (dof 1 0), bxD (dof (-1) 0, dof (-1) 0) (dof 1 0)] (.bool true) := eqbox_is (hq 0) hcd hd hd (by decide)
theorem kb_e1 : Sim Tryz.prog G0 true 21 [bxD (qk k0 (dof 1 0) 1) (dof 1 0), bxD (dof 1 0, dof (-1) 0) (dof 1 0)] (.bool true) := eqbox_is (hq 1) hcd hd hd (by decide)
theorem kb_e2 : Sim Tryz.prog G0 true 21 [bxD k0 (dof 4 0), bxD k0 (dof 4 0)] (.bool true) := eqbox_is hcd hcd hd hd (by decide)
theorem kb_d : Sim Tryz.prog G0 false 34 [bxD k0 (dof 2 0)] (bxD k0 (dof 3 0)) := bDisc_is (r := dof 2 0) bxk (Ht.mono hd (by decide)) (by decide) (by decide)
theorem kb_ed : Sim Tryz.prog G0 true 33 [bxD k0 (dof 3 0), D.agg [.bool false, sl [], .int .i64 0, .bool false, sl [], .int .i64 0, .bool (zneg (dman (dof 3 0))), sl (ofN (dman (dof 3 0)).natAbs), .int .i64 (dexp (dof 3 0))]] (.bool true) := by
  rw [dc0, show ((0, 0) : Cq) = (dof 0 0, dof 0 0) by decide]; exact eqdisc_is hcd hcd hd hd (by decide)
theorem kb_t : Sim Tryz.prog G0 true 35 [bxD (qk k0 (dof 1 0) 0) (dof 1 0), bxD (qk k0 (dof 1 0) 3) (dof 1 0)] (.bool true) := bTouch_is (r := dof 1 0) (s := dof 1 0) (bxq 0) (bxq 3) ((hq 0).mono (by decide)) (Ht.mono hd (by decide)) ((hq 3).mono (by decide)) (Ht.mono hd (by decide)) (by decide) (by decide) (by decide)
theorem kb_in : Sim Tryz.prog G0 true 37 [bxD (qk k0 (dof 1 0) 0) (dof 1 0), bxD k0 (dof 2 0)] (.bool true) := bIn_is (r := dof 1 0) (s := dof 2 0) (bxq 0) bxk ((hq 0).mono (by decide)) (Ht.mono hd (by decide)) (Hc.mono hcd (by decide)) (Ht.mono hd (by decide)) (by decide) (by decide) (by decide)
theorem kb_db : Sim Tryz.prog G0 false 39 [bxD k0 (dof 2 0)] (bxD k0 (dof 4 0)) := bDouble_is (r := dof 2 0) bxk (Ht.mono hd (by decide)) (by decide) (by decide)
theorem kb_s : Sim Tryz.prog G0 true 40 [bxD k0 (dof 2 0), bxD k0 (dof 2 0)] (.bool true) := bSame_is (r := dof 2 0) (s := dof 2 0) bxk bxk (Hc.mono hcd (by decide)) (Ht.mono hd (by decide)) (Hc.mono hcd (by decide)) (Ht.mono hd (by decide)) (by decide) (by decide) (by decide)
set_option maxHeartbeats 2000000 in
theorem known16_sim : Sim Tryz.prog G0 true 13 [] (.bool true) := by
  refine sim_mk tab_ok Tryz.func13 rfl (by kernel_rfl) rfl ⟨Nat.le_of_ble_eq_true rfl, Nat.le_of_ble_eq_true rfl⟩ ?_
  repeat' ((conv => whnf); first
    | with_reducible refine CallX.data ?_
    | refine CallE.mk _ _ (of16_is 0 0 2 (by decide) (by decide) (by decide)) ?_
    | refine CallE.mk _ _ (kb_q) ?_
    | refine CallE.mk _ _ (kb_is) ?_
    | refine CallE.mk _ _ (of16_is 0 0 0 (by decide) (by decide) (by decide)) ?_
    | refine CallE.mk _ _ (kb_isn) ?_
    | refine CallE.mk _ _ (rof_sim 2 2 (by decide) (by decide) (by decide) (by decide)) ?_
    | refine CallE.mk _ _ (kb_has) ?_
    | refine CallE.mk _ _ (of16_is (-1) (-1) 1 (by decide) (by decide) (by decide)) ?_
    | refine CallE.mk _ _ (kb_e0) ?_
    | refine CallE.mk _ _ (of16_is 1 (-1) 1 (by decide) (by decide) (by decide)) ?_
    | refine CallE.mk _ _ (kb_e1) ?_
    | refine CallE.mk _ _ (kb_d) ?_
    | refine CallE.mk _ _ (rofd_sim 3 (by decide) (by decide)) ?_
    | refine CallE.mk _ _ (kb_ed) ?_
    | refine CallE.mk _ _ (kb_t) ?_
    | refine CallE.mk _ _ (kb_in) ?_
    | refine CallE.mk _ _ (kb_db) ?_
    | refine CallE.mk _ _ (of16_is 0 0 4 (by decide) (by decide) (by decide)) ?_
    | refine CallE.mk _ _ (kb_e2) ?_
    | refine CallE.mk _ _ (kb_s) ?_
    | refine RegE.early (Cd.mk (show regOk _ _ _ _ = true by kernel_rfl) ?_)
    | refine Cd.mk rfl ?_
    | refine Br.t ?_
    | (refine TkE.fL ?_; (conv => whnf); fail_if_success (show forceL _ _))
    | refine Res.mk ?_
    | ((with_reducible refine EqE.idS ?_); (refine EqE.fP ?_; (conv => whnf); fail_if_success (show forceL _ _)))
    | refine Cd.mk (Nat.le_of_ble_eq_true rfl) ?_
    | refine Cd.mk (by first | omega | (simp only [length_limbs, length_la]; omega)) ?_)
  rfl
end Go.Ev.Ar

namespace Go.Ev.Ar
open Go Go.Ev Go.Proofs

theorem half_two (r : Dyadic) : r * dof 1 (-1) + r * dof 1 (-1) = r := by
  rw [← Dyadic.mul_add, show dof 1 (-1) + dof 1 (-1) = 1 by decide, Dyadic.mul_one]
theorem half_back (r : Dyadic) : r * dof 1 (-1) * dof 1 (min (max 1 (-20000)) 20000) = r := by
  rw [Dyadic.mul_assoc, show dof 1 (-1) * dof 1 (min (max 1 (-20000)) 20000) = 1 by decide, Dyadic.mul_one]
theorem half_pos {r s : Dyadic} (h : 0 < r) (e : s + s = r) : 0 < s := by grind
/-- A point of a square is in one of its quarters. -/
theorem quarter_some {c d : Cq} {r s : Dyadic} (e : s + s = r) (h : inB c r d) : inB (qk c s 0) s d ∨ inB (qk c s 1) s d ∨ inB (qk c s 2) s d ∨ inB (qk c s 3) s d := by
  obtain ⟨⟨h1, h2⟩, ⟨h3, h4⟩⟩ := h
  simp only [inB, qk, qw]
  by_cases g1 : d.1 ≤ c.1 <;> by_cases g2 : d.2 ≤ c.2
  · exact .inl (by grind)
  · exact .inr (.inr (.inl (by grind)))
  · exact .inr (.inl (by grind))
  · exact .inr (.inr (.inr (by grind)))
/-- A quarter of a square that is in another one is in it. -/
theorem quarter_in {c d : Cq} {r s t : Dyadic} (e : s + s = r) (hp : 0 < s) (h : bIn c r d t) (k : Nat) : bIn (qk c s k) s d t := by
  obtain ⟨⟨h1, h2⟩, ⟨h3, h4⟩⟩ := h
  unfold bIn qk qw
  split <;> (dsimp only; grind)
theorem bTo_of {c d : Cq} {r t : Dyadic} (hp : 0 < r) (h : bIn c r d t) : bTo c r d t := by
  obtain ⟨⟨h1, h2⟩, ⟨h3, h4⟩⟩ := h
  unfold bTo mx mn
  grind
theorem ht_qk {c : Cq} {s : Dyadic} {A B : Nat} (hc : Hc A c) (hs : Ht B s) (hAB : B ≤ A) (k : Nat) {C : Nat} (hC : A + 1 ≤ C) : Hc C (qk c s k) := by
  have hh : Ht A s := hs.mono hAB
  unfold qk qw
  split
  · exact ⟨(hc.1.add' hs.neg).mono (by omega), (hc.2.add' hs.neg).mono (by omega)⟩
  · exact ⟨(hc.1.add' hs).mono (by omega), (hc.2.add' hs.neg).mono (by omega)⟩
  · exact ⟨(hc.1.add' hs.neg).mono (by omega), (hc.2.add' hs).mono (by omega)⟩
  · exact ⟨(hc.1.add' hs).mono (by omega), (hc.2.add' hs).mono (by omega)⟩
end Go.Ev.Ar

namespace Go.Ev.Ar
open Go Go.Ev Go.Proofs

theorem n_rem12 (n : Nat) : (n : Int).tmod 12 = ((n % 12 : Nat) : Int) := n_rem n 12
def bxC (a : Cq) (h : Dyadic) : List A := dyC a.1 ++ dyC a.2 ++ dyC h
theorem few16_dy {b : Bool} {l : List UInt32} {e : Int} (h : fewD 10 1000 l e = true) : DyR (.agg [.bool b, sl l, .int .i64 e]) (dof (zv b l) e) ∧ DyF (.agg [.bool b, sl l, .int .i64 e]) (dof (zv b l) e) ∧ Ht 1320 (dof (zv b l) e) := by
  obtain ⟨h1, h2, h3⟩ := fewD_iff.1 h
  exact ⟨dyR_few (n := 10) (b := 1000) (by decide) (by decide) ⟨h1, h2, h3⟩, .mk _ _ _ (by omega) (by omega) (by omega), (ht_few (n := 10) (b := 1000) ⟨h1, h2, h3⟩).mono (by decide)⟩
end Go.Ev.Ar

namespace Go.Ev
open Go
abbrev shBox : Sh := .struct [shCx, shDy]
theorem has_bx {ds : List D} (h : shBox.has ds) : ∃ (r : RC) (b : Bool) (l : List UInt32) (e : Int), ds = r.cells ++ [.bool b, sl l, .int .i64 e] := by
  simp only [Sh.has, Sh.hasAll] at h
  obtain ⟨_, _, rfl, h1, _, _, rfl, h2, rfl⟩ := h
  obtain ⟨r, rfl⟩ := has_cx (by simp only [Sh.has, Sh.hasAll]; exact h1)
  obtain ⟨c, k, f, rfl, _⟩ := has_dy (by simp only [Sh.has, Sh.hasAll]; exact h2)
  exact ⟨r, c, k, f, rfl⟩
theorem arg_bx {x : D} (h : ArgOk shBox x) : ∃ (r : RC) (b : Bool) (l : List UInt32) (e : Int), x = Ar.bcell r b l e := by
  obtain ⟨ds, h1, rfl⟩ := h
  obtain ⟨r, b, l, e, rfl⟩ := has_bx h1
  exact ⟨r, b, l, e, rfl⟩
end Go.Ev
