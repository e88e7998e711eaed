/- Contracts of the given functions, on data. Conditions stand in each theorem. -/
import Derived.Test.YtmgbegcamhkblaaDoorArRoM
set_option linter.unusedSimpArgs false
set_option linter.unusedVariables false
namespace Go.Ev.Ar
open Go Go.Ev Go.Proofs

theorem roTo_is {x : D} {q r : Dyadic} {p mode : Int} (hx : DyR x q) (hq : Ht 100000 q) (h : r = rto q p mode) : Sim Tryd.prog G0 false 74 [x, .int .i64 p, .int .i64 mode] (dyD r) := h ▸ roTo_sim p mode hx hq
theorem roFits_is {x : D} {q : Dyadic} {p : Int} {b : Bool} (hx : DyR x q) (hq : Ht 100000 q) (hr : Ht 500000 (rto q p 0)) (hb : decide (rto q p 0 = q) = b) : Sim Tryd.prog G0 true 80 [x, .int .i64 p] (.bool b) := by
  subst hb; exact roFits_sim p hx hq hr
theorem dcmp_is {x y : D} {p q : Dyadic} {n : Int} (hx : DyR x p) (hy : DyR y q) (hpq : Ht 1048576 (p - q)) (h : dsg (p - q) = n) : Sim Tryd.prog G0 true 56 [x, y] (.int .i64 n) := h ▸ dcmp_sim hx hy hpq
theorem rdscale_is {p q : Dyadic} {n : Int} (hp : Ht 50000 p) (h : p * dof 1 (min (max n (-20000)) 20000) = q) : Sim Tryd.prog G0 false 49 [dyD p, .int .i64 n] (dyD q) := h ▸ rdscale_sim n hp
theorem dsg_sub_le {p q : Dyadic} (h : p ≤ q) : dsg (p - q) ≤ 0 := by rw [dsg_le]; grind
theorem dsg_sub_lt {p q : Dyadic} (h : p < q) : dsg (p - q) < 0 := by rw [dsg_lt]; grind
theorem dsg_sub_ge {p q : Dyadic} (h : q ≤ p) : 0 ≤ dsg (p - q) := by show dsg (p - q) ≥ 0; rw [dsg_ge]; grind
theorem dsame_is {x y : D} {p q : Dyadic} {b : Bool} (hx : DyR x p) (hy : DyR y q) (hpq : Ht 1048576 (p - q)) (h : decide (p = q) = b) : Sim Tryd.prog G0 true 53 [x, y] (.bool b) := h ▸ dsame_sim hx hy hpq
theorem dsub_is {x y : D} {p q r : Dyadic} (hx : DyR x p) (hy : DyR y q) (h : p - q = r) : Sim Tryd.prog G0 false 59 [x, y] (dyD r) := h ▸ dsub_sim hx hy
theorem roUlp_is {x : D} {q r : Dyadic} {p : Int} (hx : DyR x q) (hq : Ht 100000 q) (h : r = ulpD q p) : Sim Tryd.prog G0 false 78 [x, .int .i64 p] (dyD r) := h ▸ roUlp_sim p hx hq
/-- All that the law asks, of the rounding to p bits. -/
theorem rto_facts (q : Dyadic) (p : Int) : rto q p 0 ≤ q ∧ q ≤ rto q p 1 ∧ (q ≠ 0 → q - rto q p 0 < ulpD q p ∧ rto q p 1 - q < ulpD q p) ∧ (rto q p 2 = rto q p 0 ∨ rto q p 2 = rto q p 1) ∧
    (q - rto q p 0 < rto q p 1 - q → rto q p 2 = rto q p 0) ∧ (rto q p 1 - q < q - rto q p 0 → rto q p 2 = rto q p 1) ∧ (rto q p 0 = q ↔ rto q p 0 = rto q p 1) := by
  by_cases h : q = 0
  · subst h
    have h1 : ∀ m, rto 0 p m = 0 := fun m => by unfold rto; rw [if_pos rfl]
    rw [h1, h1, h1]; grind
  · have h1 : ∀ m, rto q p m = grd q (unitE q p) m := fun m => by unfold rto; rw [if_neg h]
    have h2 : ulpD q p = dof 1 (unitE q p) := by unfold ulpD; rw [if_neg h]
    obtain ⟨f1, f2, f3, f4, f5, f6, f7, f8, _⟩ := grd_facts q (unitE q p)
    rw [h1, h1, h1, h2]
    exact ⟨f1, f2, fun _ => ⟨f3, f4⟩, f5, f6, f7, f8⟩
set_option maxHeartbeats 8000000 in
theorem roundsides_sim (b : Bool) (l : List UInt32) (e : Int) (m : Int) (h3 : 0 ≤ m) (h4 : m ≤ 255) : Sim Tryd.prog G0 true 14 [.agg [.bool b, sl l, .int .i64 e], .int .u8 m] (.bool true) := by
  have s1 := few5_sim b l e
  refine sim_mk tab_ok Tryd.func14 rfl (by kernel_rfl) rfl (Nat.le_of_ble_eq_true rfl) ?_
  cases g1 : fewD 20 2000 l e
  · rw [g1] at s1
    repeat' ((conv => whnf); first
      | refine CallE.mk _ _ (known5_sim) ?_
      | refine CallE.mk _ _ (s1) ?_
      | refine Cd.mk (show regOk _ _ _ _ = true by kernel_rfl) ?_
      | refine Cd.mk rfl ?_
      | refine Br.t ?_
      | refine Br.f ?_
      | with_reducible refine Br.eqd ?_
      | with_reducible refine Br.eqb ?_
      | with_reducible refine Br.dec (fun _ => ?_) (fun _ => ?_)
      | with_reducible refine Br.ndec (fun _ => ?_) (fun _ => ?_)
      | refine Br.mk (fun _ => ?_) (fun _ => ?_)
      | refine NthE.mk _ rfl ?_
      | refine And.intro (fun _ => ?_) ?_
      | refine TkE.mk _ rfl rfl ?_
      | refine Res.mk ?_
      | refine DsE.mk [] rfl ?_
      | refine LoopEnd.go _ _ ⟨.inl rfl, rfl, rfl, by first | rfl | (repeat first | exact all_nil _ | refine all_la _ _ _ _ _ ?_)⟩ ?_
      | ((with_reducible refine EqE.idW ?_); first  | with_reducible refine EqE.mk _ (n_i64 _ (by omega)) ?_ | with_reducible refine EqE.mk _ (n_succ _ (by omega)) ?_ | refine EqE.mk _ (wrap_in (by omega) (by omega)) ?_ | refine EqE.mk _ rfl ?_)
      | ((with_reducible refine EqE.idM ?_); first  | refine EqE.mk _ rfl ?_)
      | ((with_reducible refine EqE.idI ?_); first  | refine EqE.mk _ (max_eq _ _) ?_ | refine EqE.mk _ (min_eq _ _) ?_)
      | ((with_reducible refine EqE.idS ?_); first  | refine EqE.mk _ rfl ?_)
      | ((with_reducible refine EqE.idL ?_); first  | refine EqE.mk _ (sl_own _ _ _ _ (by omega) (by omega) rfl) ?_ | refine EqE.mk _ rfl ?_)
      | refine EqE.mk _ rfl ?_
      | refine Cd.mk (Nat.le_of_ble_eq_true rfl) ?_
      | refine Cd.mk ⟨rfl, rfl⟩ ?_
      | refine Cd.mk (by first | omega | (simp only [length_limbs, length_la]; omega)) ?_
      | refine Cd.mk ?_ ?_)
    rfl
  rw [g1] at s1
  obtain ⟨hx, hp, zx, zp, ex, lx⟩ := few_dy (b := b) g1
  generalize dof (zv b l) e = p at *
  obtain ⟨lo, hlo⟩ : ∃ r, r = rto p (m + 1) 0 := ⟨_, rfl⟩
  obtain ⟨hi, hhi⟩ : ∃ r, r = rto p (m + 1) 1 := ⟨_, rfl⟩
  obtain ⟨na, hna⟩ : ∃ r, r = rto p (m + 1) 2 := ⟨_, rfl⟩
  obtain ⟨u, hu⟩ : ∃ r, r = ulpD p (m + 1) := ⟨_, rfl⟩
  have t1 : Ht 18000 lo := hlo ▸ (rto_ht hp (m + 1) 0).mono (by decide)
  have t2 : Ht 18000 na := hna ▸ (rto_ht hp (m + 1) 2).mono (by decide)
  have t3 : Ht 18000 hi := hhi ▸ (rto_ht hp (m + 1) 1).mono (by decide)
  have t4 : Ht 18000 u := hu ▸ (ulp_ht hp (m + 1)).mono (by decide)
  have u1 : rto lo (m + 1) 0 = lo := by rw [hlo, rto_fix]
  have u2 : rto hi (m + 1) 0 = hi := by rw [hhi, rto_fix]
  obtain ⟨f1, f2, f3, f5, f6, f7, f8⟩ := rto_facts p (m + 1)
  rw [← hlo] at f1 f3 f5 f6 f7 f8
  rw [← hhi] at f2 f3 f5 f6 f7 f8
  rw [← hna] at f5 f6 f7
  rw [← hu] at f3
  obtain ⟨d, hd⟩ : ∃ r, p - lo = r := ⟨_, rfl⟩
  obtain ⟨g, hg⟩ : ∃ r, hi - p = r := ⟨_, rfl⟩
  have t5 : Ht 18001 d := hd ▸ (hp.sub' t1).mono (by decide)
  have t6 : Ht 18001 g := hg ▸ (t3.sub' hp).mono (by decide)
  rw [hd, hg] at f3 f6 f7
  have c1 : ¬ dsg d < 0 := by rw [dsg_lt]; grind
  have c2 : ¬ dsg g < 0 := by rw [dsg_lt]; grind
  have c3 : dsg p ≠ 0 → dsg (d - u) < 0 := fun h => dsg_sub_lt (f3 (fun h1 => h (dsg_eq.2 h1))).1
  have c4 : dsg p ≠ 0 → dsg (g - u) < 0 := fun h => dsg_sub_lt (f3 (fun h1 => h (dsg_eq.2 h1))).2
  have c5 : na ≠ lo → 0 ≤ dsg (d - g) := fun h => Int.not_lt.1 fun h1 => h (f6 (by rw [dsg_lt] at h1; grind))
  have c6 : na ≠ hi → dsg (d - g) ≤ 0 := fun h => Int.not_lt.1 fun h1 => h (f7 (by have := dsg_gt.1 h1; grind))
  obtain ⟨B, hB⟩ : ∃ B, decide (lo = hi) = B := ⟨_, rfl⟩
  by_cases h0 : dsg p = 0
  all_goals
    try have k3 := c3 h0
    try have k4 := c4 h0
    by_cases ha : na = lo
    · by_cases hb : na = hi
      · repeat' ((conv => whnf); first
          | refine CallE.mk _ _ (known5_sim) ?_
          | refine CallE.mk _ _ (s1) ?_
          | with_reducible refine Br.ndec (fun h => absurd h0 h) (fun _ => ?_)
          | with_reducible refine Br.ndec (fun _ => ?_) (fun h => absurd h h0)
          | with_reducible refine Br.dec (fun _ => ?_) (fun h => absurd (by omega) h)
          | with_reducible refine Br.dec (fun h => absurd h (by omega)) (fun _ => ?_)
          | refine CallE.mk _ _ (roTo_is (q := p) (r := lo) (mode := 0) hx (by first | assumption | (apply Ht.mono; (focus (repeat' (first | assumption | with_reducible apply Ht.add' | with_reducible apply Ht.sub' | with_reducible apply Ht.mul' | with_reducible apply Ht.neg | with_reducible apply Ht.abs | exact Ht.one | exact Ht.zero 0 | exact Ht.cst (by decide)))); decide)) hlo) ?_
          | refine CallE.mk _ _ (roTo_is (q := p) (r := hi) (mode := 1) hx (by first | assumption | (apply Ht.mono; (focus (repeat' (first | assumption | with_reducible apply Ht.add' | with_reducible apply Ht.sub' | with_reducible apply Ht.mul' | with_reducible apply Ht.neg | with_reducible apply Ht.abs | exact Ht.one | exact Ht.zero 0 | exact Ht.cst (by decide)))); decide)) hhi) ?_
          | refine CallE.mk _ _ (roTo_is (q := p) (r := na) (mode := 2) hx (by first | assumption | (apply Ht.mono; (focus (repeat' (first | assumption | with_reducible apply Ht.add' | with_reducible apply Ht.sub' | with_reducible apply Ht.mul' | with_reducible apply Ht.neg | with_reducible apply Ht.abs | exact Ht.one | exact Ht.zero 0 | exact Ht.cst (by decide)))); decide)) hna) ?_
          | refine CallE.mk _ _ (roUlp_is (q := p) (r := u) hx (by first | assumption | (apply Ht.mono; (focus (repeat' (first | assumption | with_reducible apply Ht.add' | with_reducible apply Ht.sub' | with_reducible apply Ht.mul' | with_reducible apply Ht.neg | with_reducible apply Ht.abs | exact Ht.one | exact Ht.zero 0 | exact Ht.cst (by decide)))); decide)) hu) ?_
          | refine CallE.mk _ _ (dsub_is (p := p) (q := lo) (r := d) hx (.of (by first | assumption | (apply Ht.mono; (focus (repeat' (first | assumption | with_reducible apply Ht.add' | with_reducible apply Ht.sub' | with_reducible apply Ht.mul' | with_reducible apply Ht.neg | with_reducible apply Ht.abs | exact Ht.one | exact Ht.zero 0 | exact Ht.cst (by decide)))); decide))) hd) ?_
          | refine CallE.mk _ _ (dsub_is (p := hi) (q := p) (r := g) (.of (by first | assumption | (apply Ht.mono; (focus (repeat' (first | assumption | with_reducible apply Ht.add' | with_reducible apply Ht.sub' | with_reducible apply Ht.mul' | with_reducible apply Ht.neg | with_reducible apply Ht.abs | exact Ht.one | exact Ht.zero 0 | exact Ht.cst (by decide)))); decide))) hx hg) ?_
          | refine CallE.mk _ _ (dsign_sim (q := d) (.of (by first | assumption | (apply Ht.mono; (focus (repeat' (first | assumption | with_reducible apply Ht.add' | with_reducible apply Ht.sub' | with_reducible apply Ht.mul' | with_reducible apply Ht.neg | with_reducible apply Ht.abs | exact Ht.one | exact Ht.zero 0 | exact Ht.cst (by decide)))); decide)))) ?_
          | refine CallE.mk _ _ (dsign_sim (q := g) (.of (by first | assumption | (apply Ht.mono; (focus (repeat' (first | assumption | with_reducible apply Ht.add' | with_reducible apply Ht.sub' | with_reducible apply Ht.mul' | with_reducible apply Ht.neg | with_reducible apply Ht.abs | exact Ht.one | exact Ht.zero 0 | exact Ht.cst (by decide)))); decide)))) ?_
          | refine CallE.mk _ _ (dsign_sim hx) ?_
          | refine CallE.mk _ _ (dcmp_sim (p := d) (q := u) (.of (by first | assumption | (apply Ht.mono; (focus (repeat' (first | assumption | with_reducible apply Ht.add' | with_reducible apply Ht.sub' | with_reducible apply Ht.mul' | with_reducible apply Ht.neg | with_reducible apply Ht.abs | exact Ht.one | exact Ht.zero 0 | exact Ht.cst (by decide)))); decide))) (.of (by first | assumption | (apply Ht.mono; (focus (repeat' (first | assumption | with_reducible apply Ht.add' | with_reducible apply Ht.sub' | with_reducible apply Ht.mul' | with_reducible apply Ht.neg | with_reducible apply Ht.abs | exact Ht.one | exact Ht.zero 0 | exact Ht.cst (by decide)))); decide))) (by first | assumption | (apply Ht.mono; (focus (repeat' (first | assumption | with_reducible apply Ht.add' | with_reducible apply Ht.sub' | with_reducible apply Ht.mul' | with_reducible apply Ht.neg | with_reducible apply Ht.abs | exact Ht.one | exact Ht.zero 0 | exact Ht.cst (by decide)))); decide))) ?_
          | refine CallE.mk _ _ (dcmp_sim (p := g) (q := u) (.of (by first | assumption | (apply Ht.mono; (focus (repeat' (first | assumption | with_reducible apply Ht.add' | with_reducible apply Ht.sub' | with_reducible apply Ht.mul' | with_reducible apply Ht.neg | with_reducible apply Ht.abs | exact Ht.one | exact Ht.zero 0 | exact Ht.cst (by decide)))); decide))) (.of (by first | assumption | (apply Ht.mono; (focus (repeat' (first | assumption | with_reducible apply Ht.add' | with_reducible apply Ht.sub' | with_reducible apply Ht.mul' | with_reducible apply Ht.neg | with_reducible apply Ht.abs | exact Ht.one | exact Ht.zero 0 | exact Ht.cst (by decide)))); decide))) (by first | assumption | (apply Ht.mono; (focus (repeat' (first | assumption | with_reducible apply Ht.add' | with_reducible apply Ht.sub' | with_reducible apply Ht.mul' | with_reducible apply Ht.neg | with_reducible apply Ht.abs | exact Ht.one | exact Ht.zero 0 | exact Ht.cst (by decide)))); decide))) ?_
          | refine CallE.mk _ _ (dcmp_sim (p := d) (q := g) (.of (by first | assumption | (apply Ht.mono; (focus (repeat' (first | assumption | with_reducible apply Ht.add' | with_reducible apply Ht.sub' | with_reducible apply Ht.mul' | with_reducible apply Ht.neg | with_reducible apply Ht.abs | exact Ht.one | exact Ht.zero 0 | exact Ht.cst (by decide)))); decide))) (.of (by first | assumption | (apply Ht.mono; (focus (repeat' (first | assumption | with_reducible apply Ht.add' | with_reducible apply Ht.sub' | with_reducible apply Ht.mul' | with_reducible apply Ht.neg | with_reducible apply Ht.abs | exact Ht.one | exact Ht.zero 0 | exact Ht.cst (by decide)))); decide))) (by first | assumption | (apply Ht.mono; (focus (repeat' (first | assumption | with_reducible apply Ht.add' | with_reducible apply Ht.sub' | with_reducible apply Ht.mul' | with_reducible apply Ht.neg | with_reducible apply Ht.abs | exact Ht.one | exact Ht.zero 0 | exact Ht.cst (by decide)))); decide))) ?_
          | refine CallE.mk _ _ (dsame_is (p := na) (q := lo) (b := true) (.of (by first | assumption | (apply Ht.mono; (focus (repeat' (first | assumption | with_reducible apply Ht.add' | with_reducible apply Ht.sub' | with_reducible apply Ht.mul' | with_reducible apply Ht.neg | with_reducible apply Ht.abs | exact Ht.one | exact Ht.zero 0 | exact Ht.cst (by decide)))); decide))) (.of (by first | assumption | (apply Ht.mono; (focus (repeat' (first | assumption | with_reducible apply Ht.add' | with_reducible apply Ht.sub' | with_reducible apply Ht.mul' | with_reducible apply Ht.neg | with_reducible apply Ht.abs | exact Ht.one | exact Ht.zero 0 | exact Ht.cst (by decide)))); decide))) (by first | assumption | (apply Ht.mono; (focus (repeat' (first | assumption | with_reducible apply Ht.add' | with_reducible apply Ht.sub' | with_reducible apply Ht.mul' | with_reducible apply Ht.neg | with_reducible apply Ht.abs | exact Ht.one | exact Ht.zero 0 | exact Ht.cst (by decide)))); decide)) (decide_eq_true ha)) ?_
          | refine CallE.mk _ _ (dsame_is (p := na) (q := hi) (b := true) (.of (by first | assumption | (apply Ht.mono; (focus (repeat' (first | assumption | with_reducible apply Ht.add' | with_reducible apply Ht.sub' | with_reducible apply Ht.mul' | with_reducible apply Ht.neg | with_reducible apply Ht.abs | exact Ht.one | exact Ht.zero 0 | exact Ht.cst (by decide)))); decide))) (.of (by first | assumption | (apply Ht.mono; (focus (repeat' (first | assumption | with_reducible apply Ht.add' | with_reducible apply Ht.sub' | with_reducible apply Ht.mul' | with_reducible apply Ht.neg | with_reducible apply Ht.abs | exact Ht.one | exact Ht.zero 0 | exact Ht.cst (by decide)))); decide))) (by first | assumption | (apply Ht.mono; (focus (repeat' (first | assumption | with_reducible apply Ht.add' | with_reducible apply Ht.sub' | with_reducible apply Ht.mul' | with_reducible apply Ht.neg | with_reducible apply Ht.abs | exact Ht.one | exact Ht.zero 0 | exact Ht.cst (by decide)))); decide)) (decide_eq_true hb)) ?_
          | refine CallE.mk _ _ (roFits_is (q := lo) (b := true) (.of (by first | assumption | (apply Ht.mono; (focus (repeat' (first | assumption | with_reducible apply Ht.add' | with_reducible apply Ht.sub' | with_reducible apply Ht.mul' | with_reducible apply Ht.neg | with_reducible apply Ht.abs | exact Ht.one | exact Ht.zero 0 | exact Ht.cst (by decide)))); decide))) (by first | assumption | (apply Ht.mono; (focus (repeat' (first | assumption | with_reducible apply Ht.add' | with_reducible apply Ht.sub' | with_reducible apply Ht.mul' | with_reducible apply Ht.neg | with_reducible apply Ht.abs | exact Ht.one | exact Ht.zero 0 | exact Ht.cst (by decide)))); decide)) (by rw [u1]; exact (by first | assumption | (apply Ht.mono; (focus (repeat' (first | assumption | with_reducible apply Ht.add' | with_reducible apply Ht.sub' | with_reducible apply Ht.mul' | with_reducible apply Ht.neg | with_reducible apply Ht.abs | exact Ht.one | exact Ht.zero 0 | exact Ht.cst (by decide)))); decide))) (by rw [u1]; exact decide_eq_true rfl)) ?_
          | refine CallE.mk _ _ (roFits_is (q := hi) (b := true) (.of (by first | assumption | (apply Ht.mono; (focus (repeat' (first | assumption | with_reducible apply Ht.add' | with_reducible apply Ht.sub' | with_reducible apply Ht.mul' | with_reducible apply Ht.neg | with_reducible apply Ht.abs | exact Ht.one | exact Ht.zero 0 | exact Ht.cst (by decide)))); decide))) (by first | assumption | (apply Ht.mono; (focus (repeat' (first | assumption | with_reducible apply Ht.add' | with_reducible apply Ht.sub' | with_reducible apply Ht.mul' | with_reducible apply Ht.neg | with_reducible apply Ht.abs | exact Ht.one | exact Ht.zero 0 | exact Ht.cst (by decide)))); decide)) (by rw [u2]; exact (by first | assumption | (apply Ht.mono; (focus (repeat' (first | assumption | with_reducible apply Ht.add' | with_reducible apply Ht.sub' | with_reducible apply Ht.mul' | with_reducible apply Ht.neg | with_reducible apply Ht.abs | exact Ht.one | exact Ht.zero 0 | exact Ht.cst (by decide)))); decide))) (by rw [u2]; exact decide_eq_true rfl)) ?_
          | refine CallE.mk _ _ (roFits_is (q := p) (b := B) hx (by first | assumption | (apply Ht.mono; (focus (repeat' (first | assumption | with_reducible apply Ht.add' | with_reducible apply Ht.sub' | with_reducible apply Ht.mul' | with_reducible apply Ht.neg | with_reducible apply Ht.abs | exact Ht.one | exact Ht.zero 0 | exact Ht.cst (by decide)))); decide)) (by rw [← hlo]; exact (by first | assumption | (apply Ht.mono; (focus (repeat' (first | assumption | with_reducible apply Ht.add' | with_reducible apply Ht.sub' | with_reducible apply Ht.mul' | with_reducible apply Ht.neg | with_reducible apply Ht.abs | exact Ht.one | exact Ht.zero 0 | exact Ht.cst (by decide)))); decide))) (by rw [← hlo, ← hB]; exact decide_eq_decide.2 f8)) ?_
          | refine CallE.mk _ _ (dsame_is (p := lo) (q := hi) (b := B) (.of (by first | assumption | (apply Ht.mono; (focus (repeat' (first | assumption | with_reducible apply Ht.add' | with_reducible apply Ht.sub' | with_reducible apply Ht.mul' | with_reducible apply Ht.neg | with_reducible apply Ht.abs | exact Ht.one | exact Ht.zero 0 | exact Ht.cst (by decide)))); decide))) (.of (by first | assumption | (apply Ht.mono; (focus (repeat' (first | assumption | with_reducible apply Ht.add' | with_reducible apply Ht.sub' | with_reducible apply Ht.mul' | with_reducible apply Ht.neg | with_reducible apply Ht.abs | exact Ht.one | exact Ht.zero 0 | exact Ht.cst (by decide)))); decide))) (by first | assumption | (apply Ht.mono; (focus (repeat' (first | assumption | with_reducible apply Ht.add' | with_reducible apply Ht.sub' | with_reducible apply Ht.mul' | with_reducible apply Ht.neg | with_reducible apply Ht.abs | exact Ht.one | exact Ht.zero 0 | exact Ht.cst (by decide)))); decide)) hB) ?_
          | refine Cd.mk (show regOk _ _ _ _ = true by kernel_rfl) ?_
          | refine Cd.mk rfl ?_
          | refine Br.t ?_
          | refine Br.f ?_
          | with_reducible refine Br.eqd ?_
          | with_reducible refine Br.eqb ?_
          | with_reducible refine Br.dec (fun _ => ?_) (fun _ => ?_)
          | with_reducible refine Br.ndec (fun _ => ?_) (fun _ => ?_)
          | refine Br.mk (fun _ => ?_) (fun _ => ?_)
          | refine NthE.mk _ rfl ?_
          | refine And.intro (fun _ => ?_) ?_
          | refine TkE.mk _ rfl rfl ?_
          | refine Res.mk ?_
          | refine DsE.mk [] rfl ?_
          | refine LoopEnd.go _ _ ⟨.inl rfl, rfl, rfl, by first | rfl | (repeat first | exact all_nil _ | refine all_la _ _ _ _ _ ?_)⟩ ?_
          | ((with_reducible refine EqE.idW ?_); first  | with_reducible refine EqE.mk _ (n_i64 _ (by omega)) ?_ | with_reducible refine EqE.mk _ (n_succ _ (by omega)) ?_ | refine EqE.mk _ (wrap_in (by omega) (by omega)) ?_ | refine EqE.mk _ rfl ?_)
          | ((with_reducible refine EqE.idM ?_); first  | refine EqE.mk _ rfl ?_)
          | ((with_reducible refine EqE.idI ?_); first  | refine EqE.mk _ (max_eq _ _) ?_ | refine EqE.mk _ (min_eq _ _) ?_)
          | ((with_reducible refine EqE.idS ?_); first  | refine EqE.mk _ rfl ?_)
          | ((with_reducible refine EqE.idL ?_); first  | refine EqE.mk _ (sl_own _ _ _ _ (by omega) (by omega) rfl) ?_ | refine EqE.mk _ rfl ?_)
          | refine EqE.mk _ rfl ?_
          | refine Cd.mk (Nat.le_of_ble_eq_true rfl) ?_
          | refine Cd.mk ⟨rfl, rfl⟩ ?_
          | refine Cd.mk (by first | omega | (simp only [length_limbs, length_la]; omega)) ?_
          | refine Cd.mk ?_ ?_)
        all_goals first | exact congrArg D.bool (beq_self_eq_true _).symm | exact absurd h0 (by assumption)
      · have k6 := c6 hb
        repeat' ((conv => whnf); first
          | refine CallE.mk _ _ (known5_sim) ?_
          | refine CallE.mk _ _ (s1) ?_
          | with_reducible refine Br.ndec (fun h => absurd h0 h) (fun _ => ?_)
          | with_reducible refine Br.ndec (fun _ => ?_) (fun h => absurd h h0)
          | with_reducible refine Br.dec (fun _ => ?_) (fun h => absurd (by omega) h)
          | with_reducible refine Br.dec (fun h => absurd h (by omega)) (fun _ => ?_)
          | refine CallE.mk _ _ (roTo_is (q := p) (r := lo) (mode := 0) hx (by first | assumption | (apply Ht.mono; (focus (repeat' (first | assumption | with_reducible apply Ht.add' | with_reducible apply Ht.sub' | with_reducible apply Ht.mul' | with_reducible apply Ht.neg | with_reducible apply Ht.abs | exact Ht.one | exact Ht.zero 0 | exact Ht.cst (by decide)))); decide)) hlo) ?_
          | refine CallE.mk _ _ (roTo_is (q := p) (r := hi) (mode := 1) hx (by first | assumption | (apply Ht.mono; (focus (repeat' (first | assumption | with_reducible apply Ht.add' | with_reducible apply Ht.sub' | with_reducible apply Ht.mul' | with_reducible apply Ht.neg | with_reducible apply Ht.abs | exact Ht.one | exact Ht.zero 0 | exact Ht.cst (by decide)))); decide)) hhi) ?_
          | refine CallE.mk _ _ (roTo_is (q := p) (r := na) (mode := 2) hx (by first | assumption | (apply Ht.mono; (focus (repeat' (first | assumption | with_reducible apply Ht.add' | with_reducible apply Ht.sub' | with_reducible apply Ht.mul' | with_reducible apply Ht.neg | with_reducible apply Ht.abs | exact Ht.one | exact Ht.zero 0 | exact Ht.cst (by decide)))); decide)) hna) ?_
          | refine CallE.mk _ _ (roUlp_is (q := p) (r := u) hx (by first | assumption | (apply Ht.mono; (focus (repeat' (first | assumption | with_reducible apply Ht.add' | with_reducible apply Ht.sub' | with_reducible apply Ht.mul' | with_reducible apply Ht.neg | with_reducible apply Ht.abs | exact Ht.one | exact Ht.zero 0 | exact Ht.cst (by decide)))); decide)) hu) ?_
          | refine CallE.mk _ _ (dsub_is (p := p) (q := lo) (r := d) hx (.of (by first | assumption | (apply Ht.mono; (focus (repeat' (first | assumption | with_reducible apply Ht.add' | with_reducible apply Ht.sub' | with_reducible apply Ht.mul' | with_reducible apply Ht.neg | with_reducible apply Ht.abs | exact Ht.one | exact Ht.zero 0 | exact Ht.cst (by decide)))); decide))) hd) ?_
          | refine CallE.mk _ _ (dsub_is (p := hi) (q := p) (r := g) (.of (by first | assumption | (apply Ht.mono; (focus (repeat' (first | assumption | with_reducible apply Ht.add' | with_reducible apply Ht.sub' | with_reducible apply Ht.mul' | with_reducible apply Ht.neg | with_reducible apply Ht.abs | exact Ht.one | exact Ht.zero 0 | exact Ht.cst (by decide)))); decide))) hx hg) ?_
          | refine CallE.mk _ _ (dsign_sim (q := d) (.of (by first | assumption | (apply Ht.mono; (focus (repeat' (first | assumption | with_reducible apply Ht.add' | with_reducible apply Ht.sub' | with_reducible apply Ht.mul' | with_reducible apply Ht.neg | with_reducible apply Ht.abs | exact Ht.one | exact Ht.zero 0 | exact Ht.cst (by decide)))); decide)))) ?_
          | refine CallE.mk _ _ (dsign_sim (q := g) (.of (by first | assumption | (apply Ht.mono; (focus (repeat' (first | assumption | with_reducible apply Ht.add' | with_reducible apply Ht.sub' | with_reducible apply Ht.mul' | with_reducible apply Ht.neg | with_reducible apply Ht.abs | exact Ht.one | exact Ht.zero 0 | exact Ht.cst (by decide)))); decide)))) ?_
          | refine CallE.mk _ _ (dsign_sim hx) ?_
          | refine CallE.mk _ _ (dcmp_sim (p := d) (q := u) (.of (by first | assumption | (apply Ht.mono; (focus (repeat' (first | assumption | with_reducible apply Ht.add' | with_reducible apply Ht.sub' | with_reducible apply Ht.mul' | with_reducible apply Ht.neg | with_reducible apply Ht.abs | exact Ht.one | exact Ht.zero 0 | exact Ht.cst (by decide)))); decide))) (.of (by first | assumption | (apply Ht.mono; (focus (repeat' (first | assumption | with_reducible apply Ht.add' | with_reducible apply Ht.sub' | with_reducible apply Ht.mul' | with_reducible apply Ht.neg | with_reducible apply Ht.abs | exact Ht.one | exact Ht.zero 0 | exact Ht.cst (by decide)))); decide))) (by first | assumption | (apply Ht.mono; (focus (repeat' (first | assumption | with_reducible apply Ht.add' | with_reducible apply Ht.sub' | with_reducible apply Ht.mul' | with_reducible apply Ht.neg | with_reducible apply Ht.abs | exact Ht.one | exact Ht.zero 0 | exact Ht.cst (by decide)))); decide))) ?_
          | refine CallE.mk _ _ (dcmp_sim (p := g) (q := u) (.of (by first | assumption | (apply Ht.mono; (focus (repeat' (first | assumption | with_reducible apply Ht.add' | with_reducible apply Ht.sub' | with_reducible apply Ht.mul' | with_reducible apply Ht.neg | with_reducible apply Ht.abs | exact Ht.one | exact Ht.zero 0 | exact Ht.cst (by decide)))); decide))) (.of (by first | assumption | (apply Ht.mono; (focus (repeat' (first | assumption | with_reducible apply Ht.add' | with_reducible apply Ht.sub' | with_reducible apply Ht.mul' | with_reducible apply Ht.neg | with_reducible apply Ht.abs | exact Ht.one | exact Ht.zero 0 | exact Ht.cst (by decide)))); decide))) (by first | assumption | (apply Ht.mono; (focus (repeat' (first | assumption | with_reducible apply Ht.add' | with_reducible apply Ht.sub' | with_reducible apply Ht.mul' | with_reducible apply Ht.neg | with_reducible apply Ht.abs | exact Ht.one | exact Ht.zero 0 | exact Ht.cst (by decide)))); decide))) ?_
          | refine CallE.mk _ _ (dcmp_sim (p := d) (q := g) (.of (by first | assumption | (apply Ht.mono; (focus (repeat' (first | assumption | with_reducible apply Ht.add' | with_reducible apply Ht.sub' | with_reducible apply Ht.mul' | with_reducible apply Ht.neg | with_reducible apply Ht.abs | exact Ht.one | exact Ht.zero 0 | exact Ht.cst (by decide)))); decide))) (.of (by first | assumption | (apply Ht.mono; (focus (repeat' (first | assumption | with_reducible apply Ht.add' | with_reducible apply Ht.sub' | with_reducible apply Ht.mul' | with_reducible apply Ht.neg | with_reducible apply Ht.abs | exact Ht.one | exact Ht.zero 0 | exact Ht.cst (by decide)))); decide))) (by first | assumption | (apply Ht.mono; (focus (repeat' (first | assumption | with_reducible apply Ht.add' | with_reducible apply Ht.sub' | with_reducible apply Ht.mul' | with_reducible apply Ht.neg | with_reducible apply Ht.abs | exact Ht.one | exact Ht.zero 0 | exact Ht.cst (by decide)))); decide))) ?_
          | refine CallE.mk _ _ (dsame_is (p := na) (q := lo) (b := true) (.of (by first | assumption | (apply Ht.mono; (focus (repeat' (first | assumption | with_reducible apply Ht.add' | with_reducible apply Ht.sub' | with_reducible apply Ht.mul' | with_reducible apply Ht.neg | with_reducible apply Ht.abs | exact Ht.one | exact Ht.zero 0 | exact Ht.cst (by decide)))); decide))) (.of (by first | assumption | (apply Ht.mono; (focus (repeat' (first | assumption | with_reducible apply Ht.add' | with_reducible apply Ht.sub' | with_reducible apply Ht.mul' | with_reducible apply Ht.neg | with_reducible apply Ht.abs | exact Ht.one | exact Ht.zero 0 | exact Ht.cst (by decide)))); decide))) (by first | assumption | (apply Ht.mono; (focus (repeat' (first | assumption | with_reducible apply Ht.add' | with_reducible apply Ht.sub' | with_reducible apply Ht.mul' | with_reducible apply Ht.neg | with_reducible apply Ht.abs | exact Ht.one | exact Ht.zero 0 | exact Ht.cst (by decide)))); decide)) (decide_eq_true ha)) ?_
          | refine CallE.mk _ _ (dsame_is (p := na) (q := hi) (b := false) (.of (by first | assumption | (apply Ht.mono; (focus (repeat' (first | assumption | with_reducible apply Ht.add' | with_reducible apply Ht.sub' | with_reducible apply Ht.mul' | with_reducible apply Ht.neg | with_reducible apply Ht.abs | exact Ht.one | exact Ht.zero 0 | exact Ht.cst (by decide)))); decide))) (.of (by first | assumption | (apply Ht.mono; (focus (repeat' (first | assumption | with_reducible apply Ht.add' | with_reducible apply Ht.sub' | with_reducible apply Ht.mul' | with_reducible apply Ht.neg | with_reducible apply Ht.abs | exact Ht.one | exact Ht.zero 0 | exact Ht.cst (by decide)))); decide))) (by first | assumption | (apply Ht.mono; (focus (repeat' (first | assumption | with_reducible apply Ht.add' | with_reducible apply Ht.sub' | with_reducible apply Ht.mul' | with_reducible apply Ht.neg | with_reducible apply Ht.abs | exact Ht.one | exact Ht.zero 0 | exact Ht.cst (by decide)))); decide)) (decide_eq_false hb)) ?_
          | refine CallE.mk _ _ (roFits_is (q := lo) (b := true) (.of (by first | assumption | (apply Ht.mono; (focus (repeat' (first | assumption | with_reducible apply Ht.add' | with_reducible apply Ht.sub' | with_reducible apply Ht.mul' | with_reducible apply Ht.neg | with_reducible apply Ht.abs | exact Ht.one | exact Ht.zero 0 | exact Ht.cst (by decide)))); decide))) (by first | assumption | (apply Ht.mono; (focus (repeat' (first | assumption | with_reducible apply Ht.add' | with_reducible apply Ht.sub' | with_reducible apply Ht.mul' | with_reducible apply Ht.neg | with_reducible apply Ht.abs | exact Ht.one | exact Ht.zero 0 | exact Ht.cst (by decide)))); decide)) (by rw [u1]; exact (by first | assumption | (apply Ht.mono; (focus (repeat' (first | assumption | with_reducible apply Ht.add' | with_reducible apply Ht.sub' | with_reducible apply Ht.mul' | with_reducible apply Ht.neg | with_reducible apply Ht.abs | exact Ht.one | exact Ht.zero 0 | exact Ht.cst (by decide)))); decide))) (by rw [u1]; exact decide_eq_true rfl)) ?_
          | refine CallE.mk _ _ (roFits_is (q := hi) (b := true) (.of (by first | assumption | (apply Ht.mono; (focus (repeat' (first | assumption | with_reducible apply Ht.add' | with_reducible apply Ht.sub' | with_reducible apply Ht.mul' | with_reducible apply Ht.neg | with_reducible apply Ht.abs | exact Ht.one | exact Ht.zero 0 | exact Ht.cst (by decide)))); decide))) (by first | assumption | (apply Ht.mono; (focus (repeat' (first | assumption | with_reducible apply Ht.add' | with_reducible apply Ht.sub' | with_reducible apply Ht.mul' | with_reducible apply Ht.neg | with_reducible apply Ht.abs | exact Ht.one | exact Ht.zero 0 | exact Ht.cst (by decide)))); decide)) (by rw [u2]; exact (by first | assumption | (apply Ht.mono; (focus (repeat' (first | assumption | with_reducible apply Ht.add' | with_reducible apply Ht.sub' | with_reducible apply Ht.mul' | with_reducible apply Ht.neg | with_reducible apply Ht.abs | exact Ht.one | exact Ht.zero 0 | exact Ht.cst (by decide)))); decide))) (by rw [u2]; exact decide_eq_true rfl)) ?_
          | refine CallE.mk _ _ (roFits_is (q := p) (b := B) hx (by first | assumption | (apply Ht.mono; (focus (repeat' (first | assumption | with_reducible apply Ht.add' | with_reducible apply Ht.sub' | with_reducible apply Ht.mul' | with_reducible apply Ht.neg | with_reducible apply Ht.abs | exact Ht.one | exact Ht.zero 0 | exact Ht.cst (by decide)))); decide)) (by rw [← hlo]; exact (by first | assumption | (apply Ht.mono; (focus (repeat' (first | assumption | with_reducible apply Ht.add' | with_reducible apply Ht.sub' | with_reducible apply Ht.mul' | with_reducible apply Ht.neg | with_reducible apply Ht.abs | exact Ht.one | exact Ht.zero 0 | exact Ht.cst (by decide)))); decide))) (by rw [← hlo, ← hB]; exact decide_eq_decide.2 f8)) ?_
          | refine CallE.mk _ _ (dsame_is (p := lo) (q := hi) (b := B) (.of (by first | assumption | (apply Ht.mono; (focus (repeat' (first | assumption | with_reducible apply Ht.add' | with_reducible apply Ht.sub' | with_reducible apply Ht.mul' | with_reducible apply Ht.neg | with_reducible apply Ht.abs | exact Ht.one | exact Ht.zero 0 | exact Ht.cst (by decide)))); decide))) (.of (by first | assumption | (apply Ht.mono; (focus (repeat' (first | assumption | with_reducible apply Ht.add' | with_reducible apply Ht.sub' | with_reducible apply Ht.mul' | with_reducible apply Ht.neg | with_reducible apply Ht.abs | exact Ht.one | exact Ht.zero 0 | exact Ht.cst (by decide)))); decide))) (by first | assumption | (apply Ht.mono; (focus (repeat' (first | assumption | with_reducible apply Ht.add' | with_reducible apply Ht.sub' | with_reducible apply Ht.mul' | with_reducible apply Ht.neg | with_reducible apply Ht.abs | exact Ht.one | exact Ht.zero 0 | exact Ht.cst (by decide)))); decide)) hB) ?_
          | refine Cd.mk (show regOk _ _ _ _ = true by kernel_rfl) ?_
          | refine Cd.mk rfl ?_
          | refine Br.t ?_
          | refine Br.f ?_
          | with_reducible refine Br.eqd ?_
          | with_reducible refine Br.eqb ?_
          | with_reducible refine Br.dec (fun _ => ?_) (fun _ => ?_)
          | with_reducible refine Br.ndec (fun _ => ?_) (fun _ => ?_)
          | refine Br.mk (fun _ => ?_) (fun _ => ?_)
          | refine NthE.mk _ rfl ?_
          | refine And.intro (fun _ => ?_) ?_
          | refine TkE.mk _ rfl rfl ?_
          | refine Res.mk ?_
          | refine DsE.mk [] rfl ?_
          | refine LoopEnd.go _ _ ⟨.inl rfl, rfl, rfl, by first | rfl | (repeat first | exact all_nil _ | refine all_la _ _ _ _ _ ?_)⟩ ?_
          | ((with_reducible refine EqE.idW ?_); first  | with_reducible refine EqE.mk _ (n_i64 _ (by omega)) ?_ | with_reducible refine EqE.mk _ (n_succ _ (by omega)) ?_ | refine EqE.mk _ (wrap_in (by omega) (by omega)) ?_ | refine EqE.mk _ rfl ?_)
          | ((with_reducible refine EqE.idM ?_); first  | refine EqE.mk _ rfl ?_)
          | ((with_reducible refine EqE.idI ?_); first  | refine EqE.mk _ (max_eq _ _) ?_ | refine EqE.mk _ (min_eq _ _) ?_)
          | ((with_reducible refine EqE.idS ?_); first  | refine EqE.mk _ rfl ?_)
          | ((with_reducible refine EqE.idL ?_); first  | refine EqE.mk _ (sl_own _ _ _ _ (by omega) (by omega) rfl) ?_ | refine EqE.mk _ rfl ?_)
          | refine EqE.mk _ rfl ?_
          | refine Cd.mk (Nat.le_of_ble_eq_true rfl) ?_
          | refine Cd.mk ⟨rfl, rfl⟩ ?_
          | refine Cd.mk (by first | omega | (simp only [length_limbs, length_la]; omega)) ?_
          | refine Cd.mk ?_ ?_)
        all_goals first | exact congrArg D.bool (beq_self_eq_true _).symm | exact absurd h0 (by assumption)
    · have k5 := c5 ha
      have hb : na = hi := f5.resolve_left ha
      repeat' ((conv => whnf); first
        | refine CallE.mk _ _ (known5_sim) ?_
        | refine CallE.mk _ _ (s1) ?_
        | with_reducible refine Br.ndec (fun h => absurd h0 h) (fun _ => ?_)
        | with_reducible refine Br.ndec (fun _ => ?_) (fun h => absurd h h0)
        | with_reducible refine Br.dec (fun _ => ?_) (fun h => absurd (by omega) h)
        | with_reducible refine Br.dec (fun h => absurd h (by omega)) (fun _ => ?_)
        | refine CallE.mk _ _ (roTo_is (q := p) (r := lo) (mode := 0) hx (by first | assumption | (apply Ht.mono; (focus (repeat' (first | assumption | with_reducible apply Ht.add' | with_reducible apply Ht.sub' | with_reducible apply Ht.mul' | with_reducible apply Ht.neg | with_reducible apply Ht.abs | exact Ht.one | exact Ht.zero 0 | exact Ht.cst (by decide)))); decide)) hlo) ?_
        | refine CallE.mk _ _ (roTo_is (q := p) (r := hi) (mode := 1) hx (by first | assumption | (apply Ht.mono; (focus (repeat' (first | assumption | with_reducible apply Ht.add' | with_reducible apply Ht.sub' | with_reducible apply Ht.mul' | with_reducible apply Ht.neg | with_reducible apply Ht.abs | exact Ht.one | exact Ht.zero 0 | exact Ht.cst (by decide)))); decide)) hhi) ?_
        | refine CallE.mk _ _ (roTo_is (q := p) (r := na) (mode := 2) hx (by first | assumption | (apply Ht.mono; (focus (repeat' (first | assumption | with_reducible apply Ht.add' | with_reducible apply Ht.sub' | with_reducible apply Ht.mul' | with_reducible apply Ht.neg | with_reducible apply Ht.abs | exact Ht.one | exact Ht.zero 0 | exact Ht.cst (by decide)))); decide)) hna) ?_
        | refine CallE.mk _ _ (roUlp_is (q := p) (r := u) hx (by first | assumption | (apply Ht.mono; (focus (repeat' (first | assumption | with_reducible apply Ht.add' | with_reducible apply Ht.sub' | with_reducible apply Ht.mul' | with_reducible apply Ht.neg | with_reducible apply Ht.abs | exact Ht.one | exact Ht.zero 0 | exact Ht.cst (by decide)))); decide)) hu) ?_
        | refine CallE.mk _ _ (dsub_is (p := p) (q := lo) (r := d) hx (.of (by first | assumption | (apply Ht.mono; (focus (repeat' (first | assumption | with_reducible apply Ht.add' | with_reducible apply Ht.sub' | with_reducible apply Ht.mul' | with_reducible apply Ht.neg | with_reducible apply Ht.abs | exact Ht.one | exact Ht.zero 0 | exact Ht.cst (by decide)))); decide))) hd) ?_
        | refine CallE.mk _ _ (dsub_is (p := hi) (q := p) (r := g) (.of (by first | assumption | (apply Ht.mono; (focus (repeat' (first | assumption | with_reducible apply Ht.add' | with_reducible apply Ht.sub' | with_reducible apply Ht.mul' | with_reducible apply Ht.neg | with_reducible apply Ht.abs | exact Ht.one | exact Ht.zero 0 | exact Ht.cst (by decide)))); decide))) hx hg) ?_
        | refine CallE.mk _ _ (dsign_sim (q := d) (.of (by first | assumption | (apply Ht.mono; (focus (repeat' (first | assumption | with_reducible apply Ht.add' | with_reducible apply Ht.sub' | with_reducible apply Ht.mul' | with_reducible apply Ht.neg | with_reducible apply Ht.abs | exact Ht.one | exact Ht.zero 0 | exact Ht.cst (by decide)))); decide)))) ?_
        | refine CallE.mk _ _ (dsign_sim (q := g) (.of (by first | assumption | (apply Ht.mono; (focus (repeat' (first | assumption | with_reducible apply Ht.add' | with_reducible apply Ht.sub' | with_reducible apply Ht.mul' | with_reducible apply Ht.neg | with_reducible apply Ht.abs | exact Ht.one | exact Ht.zero 0 | exact Ht.cst (by decide)))); decide)))) ?_
        | refine CallE.mk _ _ (dsign_sim hx) ?_
        | refine CallE.mk _ _ (dcmp_sim (p := d) (q := u) (.of (by first | assumption | (apply Ht.mono; (focus (repeat' (first | assumption | with_reducible apply Ht.add' | with_reducible apply Ht.sub' | with_reducible apply Ht.mul' | with_reducible apply Ht.neg | with_reducible apply Ht.abs | exact Ht.one | exact Ht.zero 0 | exact Ht.cst (by decide)))); decide))) (.of (by first | assumption | (apply Ht.mono; (focus (repeat' (first | assumption | with_reducible apply Ht.add' | with_reducible apply Ht.sub' | with_reducible apply Ht.mul' | with_reducible apply Ht.neg | with_reducible apply Ht.abs | exact Ht.one | exact Ht.zero 0 | exact Ht.cst (by decide)))); decide))) (by first | assumption | (apply Ht.mono; (focus (repeat' (first | assumption | with_reducible apply Ht.add' | with_reducible apply Ht.sub' | with_reducible apply Ht.mul' | with_reducible apply Ht.neg | with_reducible apply Ht.abs | exact Ht.one | exact Ht.zero 0 | exact Ht.cst (by decide)))); decide))) ?_
        | refine CallE.mk _ _ (dcmp_sim (p := g) (q := u) (.of (by first | assumption | (apply Ht.mono; (focus (repeat' (first | assumption | with_reducible apply Ht.add' | with_reducible apply Ht.sub' | with_reducible apply Ht.mul' | with_reducible apply Ht.neg | with_reducible apply Ht.abs | exact Ht.one | exact Ht.zero 0 | exact Ht.cst (by decide)))); decide))) (.of (by first | assumption | (apply Ht.mono; (focus (repeat' (first | assumption | with_reducible apply Ht.add' | with_reducible apply Ht.sub' | with_reducible apply Ht.mul' | with_reducible apply Ht.neg | with_reducible apply Ht.abs | exact Ht.one | exact Ht.zero 0 | exact Ht.cst (by decide)))); decide))) (by first | assumption | (apply Ht.mono; (focus (repeat' (first | assumption | with_reducible apply Ht.add' | with_reducible apply Ht.sub' | with_reducible apply Ht.mul' | with_reducible apply Ht.neg | with_reducible apply Ht.abs | exact Ht.one | exact Ht.zero 0 | exact Ht.cst (by decide)))); decide))) ?_
        | refine CallE.mk _ _ (dcmp_sim (p := d) (q := g) (.of (by first | assumption | (apply Ht.mono; (focus (repeat' (first | assumption | with_reducible apply Ht.add' | with_reducible apply Ht.sub' | with_reducible apply Ht.mul' | with_reducible apply Ht.neg | with_reducible apply Ht.abs | exact Ht.one | exact Ht.zero 0 | exact Ht.cst (by decide)))); decide))) (.of (by first | assumption | (apply Ht.mono; (focus (repeat' (first | assumption | with_reducible apply Ht.add' | with_reducible apply Ht.sub' | with_reducible apply Ht.mul' | with_reducible apply Ht.neg | with_reducible apply Ht.abs | exact Ht.one | exact Ht.zero 0 | exact Ht.cst (by decide)))); decide))) (by first | assumption | (apply Ht.mono; (focus (repeat' (first | assumption | with_reducible apply Ht.add' | with_reducible apply Ht.sub' | with_reducible apply Ht.mul' | with_reducible apply Ht.neg | with_reducible apply Ht.abs | exact Ht.one | exact Ht.zero 0 | exact Ht.cst (by decide)))); decide))) ?_
        | refine CallE.mk _ _ (dsame_is (p := na) (q := lo) (b := false) (.of (by first | assumption | (apply Ht.mono; (focus (repeat' (first | assumption | with_reducible apply Ht.add' | with_reducible apply Ht.sub' | with_reducible apply Ht.mul' | with_reducible apply Ht.neg | with_reducible apply Ht.abs | exact Ht.one | exact Ht.zero 0 | exact Ht.cst (by decide)))); decide))) (.of (by first | assumption | (apply Ht.mono; (focus (repeat' (first | assumption | with_reducible apply Ht.add' | with_reducible apply Ht.sub' | with_reducible apply Ht.mul' | with_reducible apply Ht.neg | with_reducible apply Ht.abs | exact Ht.one | exact Ht.zero 0 | exact Ht.cst (by decide)))); decide))) (by first | assumption | (apply Ht.mono; (focus (repeat' (first | assumption | with_reducible apply Ht.add' | with_reducible apply Ht.sub' | with_reducible apply Ht.mul' | with_reducible apply Ht.neg | with_reducible apply Ht.abs | exact Ht.one | exact Ht.zero 0 | exact Ht.cst (by decide)))); decide)) (decide_eq_false ha)) ?_
        | refine CallE.mk _ _ (dsame_is (p := na) (q := hi) (b := true) (.of (by first | assumption | (apply Ht.mono; (focus (repeat' (first | assumption | with_reducible apply Ht.add' | with_reducible apply Ht.sub' | with_reducible apply Ht.mul' | with_reducible apply Ht.neg | with_reducible apply Ht.abs | exact Ht.one | exact Ht.zero 0 | exact Ht.cst (by decide)))); decide))) (.of (by first | assumption | (apply Ht.mono; (focus (repeat' (first | assumption | with_reducible apply Ht.add' | with_reducible apply Ht.sub' | with_reducible apply Ht.mul' | with_reducible apply Ht.neg | with_reducible apply Ht.abs | exact Ht.one | exact Ht.zero 0 | exact Ht.cst (by decide)))); decide))) (by first | assumption | (apply Ht.mono; (focus (repeat' (first | assumption | with_reducible apply Ht.add' | with_reducible apply Ht.sub' | with_reducible apply Ht.mul' | with_reducible apply Ht.neg | with_reducible apply Ht.abs | exact Ht.one | exact Ht.zero 0 | exact Ht.cst (by decide)))); decide)) (decide_eq_true hb)) ?_
        | refine CallE.mk _ _ (roFits_is (q := lo) (b := true) (.of (by first | assumption | (apply Ht.mono; (focus (repeat' (first | assumption | with_reducible apply Ht.add' | with_reducible apply Ht.sub' | with_reducible apply Ht.mul' | with_reducible apply Ht.neg | with_reducible apply Ht.abs | exact Ht.one | exact Ht.zero 0 | exact Ht.cst (by decide)))); decide))) (by first | assumption | (apply Ht.mono; (focus (repeat' (first | assumption | with_reducible apply Ht.add' | with_reducible apply Ht.sub' | with_reducible apply Ht.mul' | with_reducible apply Ht.neg | with_reducible apply Ht.abs | exact Ht.one | exact Ht.zero 0 | exact Ht.cst (by decide)))); decide)) (by rw [u1]; exact (by first | assumption | (apply Ht.mono; (focus (repeat' (first | assumption | with_reducible apply Ht.add' | with_reducible apply Ht.sub' | with_reducible apply Ht.mul' | with_reducible apply Ht.neg | with_reducible apply Ht.abs | exact Ht.one | exact Ht.zero 0 | exact Ht.cst (by decide)))); decide))) (by rw [u1]; exact decide_eq_true rfl)) ?_
        | refine CallE.mk _ _ (roFits_is (q := hi) (b := true) (.of (by first | assumption | (apply Ht.mono; (focus (repeat' (first | assumption | with_reducible apply Ht.add' | with_reducible apply Ht.sub' | with_reducible apply Ht.mul' | with_reducible apply Ht.neg | with_reducible apply Ht.abs | exact Ht.one | exact Ht.zero 0 | exact Ht.cst (by decide)))); decide))) (by first | assumption | (apply Ht.mono; (focus (repeat' (first | assumption | with_reducible apply Ht.add' | with_reducible apply Ht.sub' | with_reducible apply Ht.mul' | with_reducible apply Ht.neg | with_reducible apply Ht.abs | exact Ht.one | exact Ht.zero 0 | exact Ht.cst (by decide)))); decide)) (by rw [u2]; exact (by first | assumption | (apply Ht.mono; (focus (repeat' (first | assumption | with_reducible apply Ht.add' | with_reducible apply Ht.sub' | with_reducible apply Ht.mul' | with_reducible apply Ht.neg | with_reducible apply Ht.abs | exact Ht.one | exact Ht.zero 0 | exact Ht.cst (by decide)))); decide))) (by rw [u2]; exact decide_eq_true rfl)) ?_
        | refine CallE.mk _ _ (roFits_is (q := p) (b := B) hx (by first | assumption | (apply Ht.mono; (focus (repeat' (first | assumption | with_reducible apply Ht.add' | with_reducible apply Ht.sub' | with_reducible apply Ht.mul' | with_reducible apply Ht.neg | with_reducible apply Ht.abs | exact Ht.one | exact Ht.zero 0 | exact Ht.cst (by decide)))); decide)) (by rw [← hlo]; exact (by first | assumption | (apply Ht.mono; (focus (repeat' (first | assumption | with_reducible apply Ht.add' | with_reducible apply Ht.sub' | with_reducible apply Ht.mul' | with_reducible apply Ht.neg | with_reducible apply Ht.abs | exact Ht.one | exact Ht.zero 0 | exact Ht.cst (by decide)))); decide))) (by rw [← hlo, ← hB]; exact decide_eq_decide.2 f8)) ?_
        | refine CallE.mk _ _ (dsame_is (p := lo) (q := hi) (b := B) (.of (by first | assumption | (apply Ht.mono; (focus (repeat' (first | assumption | with_reducible apply Ht.add' | with_reducible apply Ht.sub' | with_reducible apply Ht.mul' | with_reducible apply Ht.neg | with_reducible apply Ht.abs | exact Ht.one | exact Ht.zero 0 | exact Ht.cst (by decide)))); decide))) (.of (by first | assumption | (apply Ht.mono; (focus (repeat' (first | assumption | with_reducible apply Ht.add' | with_reducible apply Ht.sub' | with_reducible apply Ht.mul' | with_reducible apply Ht.neg | with_reducible apply Ht.abs | exact Ht.one | exact Ht.zero 0 | exact Ht.cst (by decide)))); decide))) (by first | assumption | (apply Ht.mono; (focus (repeat' (first | assumption | with_reducible apply Ht.add' | with_reducible apply Ht.sub' | with_reducible apply Ht.mul' | with_reducible apply Ht.neg | with_reducible apply Ht.abs | exact Ht.one | exact Ht.zero 0 | exact Ht.cst (by decide)))); decide)) hB) ?_
        | refine Cd.mk (show regOk _ _ _ _ = true by kernel_rfl) ?_
        | refine Cd.mk rfl ?_
        | refine Br.t ?_
        | refine Br.f ?_
        | with_reducible refine Br.eqd ?_
        | with_reducible refine Br.eqb ?_
        | with_reducible refine Br.dec (fun _ => ?_) (fun _ => ?_)
        | with_reducible refine Br.ndec (fun _ => ?_) (fun _ => ?_)
        | refine Br.mk (fun _ => ?_) (fun _ => ?_)
        | refine NthE.mk _ rfl ?_
        | refine And.intro (fun _ => ?_) ?_
        | refine TkE.mk _ rfl rfl ?_
        | refine Res.mk ?_
        | refine DsE.mk [] rfl ?_
        | refine LoopEnd.go _ _ ⟨.inl rfl, rfl, rfl, by first | rfl | (repeat first | exact all_nil _ | refine all_la _ _ _ _ _ ?_)⟩ ?_
        | ((with_reducible refine EqE.idW ?_); first  | with_reducible refine EqE.mk _ (n_i64 _ (by omega)) ?_ | with_reducible refine EqE.mk _ (n_succ _ (by omega)) ?_ | refine EqE.mk _ (wrap_in (by omega) (by omega)) ?_ | refine EqE.mk _ rfl ?_)
        | ((with_reducible refine EqE.idM ?_); first  | refine EqE.mk _ rfl ?_)
        | ((with_reducible refine EqE.idI ?_); first  | refine EqE.mk _ (max_eq _ _) ?_ | refine EqE.mk _ (min_eq _ _) ?_)
        | ((with_reducible refine EqE.idS ?_); first  | refine EqE.mk _ rfl ?_)
        | ((with_reducible refine EqE.idL ?_); first  | refine EqE.mk _ (sl_own _ _ _ _ (by omega) (by omega) rfl) ?_ | refine EqE.mk _ rfl ?_)
        | refine EqE.mk _ rfl ?_
        | refine Cd.mk (Nat.le_of_ble_eq_true rfl) ?_
        | refine Cd.mk ⟨rfl, rfl⟩ ?_
        | refine Cd.mk (by first | omega | (simp only [length_limbs, length_la]; omega)) ?_
        | refine Cd.mk ?_ ?_)
      all_goals first | exact congrArg D.bool (beq_self_eq_true _).symm | exact absurd h0 (by assumption)
end Go.Ev.Ar
