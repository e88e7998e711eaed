/- Contracts of the given functions, on data. Conditions stand in each theorem. -/
import Derived.Test.YtagjickjfjgfpaaGreatDoorGAvWind
import Derived.Test.YtagjickjfjgfpaaGreatDoorGAvDyL
import Derived.Test.YtagjickjfjgfpaaGreatDoorGEvZ
set_option linter.unusedSimpArgs false
set_option linter.unusedVariables false
namespace Go.Ev.Ar
open Go Go.Ev Go.Proofs

theorem dsg_sub_le {p q : Dyadic} : dsg (p - q) ≤ 0 ↔ p ≤ q := by rw [dsg_le]; grind
theorem dsg_sub_ge {p q : Dyadic} : dsg (p - q) ≥ 0 ↔ q ≤ p := by rw [dsg_ge]; grind
theorem dmin_is {x y : D} {p q r : Dyadic} (hx : DyR x p) (hy : DyR y q) (hpq : Ht 1048576 (p - q)) (h : mn p q = r) : Sim Tryz.prog G0 false 123 [x, y] (dyD r) := h ▸ dmin_sim hx hy hpq
theorem dmax_is {x y : D} {p q r : Dyadic} (hx : DyR x p) (hy : DyR y q) (hpq : Ht 1048576 (p - q)) (h : mx p q = r) : Sim Tryz.prog G0 false 124 [x, y] (dyD r) := h ▸ dmax_sim hx hy hpq
theorem cxD_eta (z : Cq) : D.agg [.bool (zneg (dman z.1)), sl (ofN (dman z.1).natAbs), .int .i64 (dexp z.1), .bool (zneg (dman z.2)), sl (ofN (dman z.2).natAbs), .int .i64 (dexp z.2)] = cxD z := rfl
theorem rlof_is {x : D} {z r : Cq} (hx : CxR x z) (hz : Hc 1000000 z) (h : rof z = r) : Sim Tryz.prog G0 false 122 [x] (cxD r) := by
  subst h
  have hd := hz.1.sub hz.2 (c := 1048576) (by decide)
  obtain ⟨hp, hq⟩ := hx
  refine sim_mk tab_ok Tryz.func122 rfl (by kernel_rfl) rfl ⟨Nat.le_of_ble_eq_true rfl, Nat.le_of_ble_eq_true rfl⟩ ?_
  repeat' ((conv => whnf); first
    | refine CallE.mk _ _ (dmin_is hp hq hd rfl) ?_
    | refine CallE.mk _ _ (dmax_is hp hq hd rfl) ?_
    | refine RegE.early (Cd.mk (show regOk _ _ _ _ = true by kernel_rfl) ?_)
    | refine Cd.mk rfl ?_
    | (refine TkE.fL ?_; (conv => whnf); fail_if_success (show forceL _ _))
    | refine Res.mk ?_
    | ((with_reducible refine EqE.idS ?_); (refine EqE.fP ?_; (conv => whnf); fail_if_success (show forceL _ _)))
    | refine Cd.mk (Nat.le_of_ble_eq_true rfl) ?_)
  rfl
theorem rlOf_is {x : D} {p : Dyadic} (hx : DyR x p) (hp : Ht 1000000 p) : Sim Tryz.prog G0 false 125 [x] (cxD (p, p)) := by
  have hr : rof (p, p) = (p, p) := rof_self (by show p ≤ p; grind)
  obtain ⟨b, l, e⟩ := hx
  rename_i h1 h2 h3 h4
  have hc : CxR (.agg [.bool b, sl l, .int .i64 e, .bool b, sl l, .int .i64 e]) (dof (zv b l) e, dof (zv b l) e) := .mk (.mk _ _ _ h1 h2 h3 (hp.mono (by decide))) (.mk _ _ _ h1 h2 h3 (hp.mono (by decide)))
  refine sim_mk tab_ok Tryz.func125 rfl (by kernel_rfl) rfl ⟨Nat.le_of_ble_eq_true rfl, Nat.le_of_ble_eq_true rfl⟩ ?_
  repeat' ((conv => whnf); first
    | with_reducible refine CallX.data ?_
    | refine CallE.mk _ _ (rlof_is hc ⟨hp, hp⟩ hr) ?_
    | refine RegE.early (Cd.mk (show regOk _ _ _ _ = true by kernel_rfl) ?_)
    | refine Cd.mk rfl ?_
    | (refine TkE.fL ?_; (conv => whnf); fail_if_success (show forceL _ _))
    | refine Res.mk ?_
    | ((with_reducible refine EqE.idS ?_); (refine EqE.fP ?_; (conv => whnf); fail_if_success (show forceL _ _)))
    | refine Cd.mk (Nat.le_of_ble_eq_true rfl) ?_)
  rfl
theorem rlIs_is {x : D} {z : Cq} {t : Bool} (hx : CxR x z) (hz : Hc 1000000 z) (h : decide (z.1 ≤ z.2) = t) : Sim Tryz.prog G0 true 188 [x] (.bool t) := by
  subst h
  have hd := hz.1.sub hz.2 (c := 1048576) (by decide)
  obtain ⟨hp, hq⟩ := hx
  refine sim_mk tab_ok Tryz.func188 rfl (by kernel_rfl) rfl ⟨Nat.le_of_ble_eq_true rfl, Nat.le_of_ble_eq_true rfl⟩ ?_
  repeat' ((conv => whnf); first
    | with_reducible refine CallX.data ?_
    | refine CallE.mk _ _ (dcmp_sim hp hq hd) ?_
    | refine RegE.early (Cd.mk (show regOk _ _ _ _ = true by kernel_rfl) ?_)
    | refine Cd.mk rfl ?_
    | (refine TkE.fL ?_; (conv => whnf); fail_if_success (show forceL _ _))
    | refine Res.mk ?_)
  exact congrArg D.bool (decide_eq_decide.2 dsg_sub_le.symm)
theorem rlHas_is {x y : D} {z : Cq} {d : Dyadic} {t : Bool} (hx : CxR x z) (hy : DyR y d) (hz : Hc 1000000 z) (hd : Ht 1000000 d) (h : decide (ihas (rof z) d) = t) : Sim Tryz.prog G0 true 204 [x, y] (.bool t) := by
  subst h
  have hr := hz.rof
  have s := rlof_is hx hz rfl
  obtain ⟨r, er⟩ : ∃ r, r = rof z := ⟨_, rfl⟩
  rw [← er] at s hr ⊢
  obtain ⟨p, q⟩ := r
  have h1 := hr.1.sub hd (c := 1048576) (by decide)
  have h2 := hd.sub hr.2 (c := 1048576) (by decide)
  obtain ⟨hp, hq⟩ := hx
  obtain ⟨b, l, e⟩ := hy
  refine sim_mk tab_ok Tryz.func204 rfl (by kernel_rfl) rfl ⟨Nat.le_of_ble_eq_true rfl, Nat.le_of_ble_eq_true rfl⟩ ?_
  repeat' ((conv => whnf); first
    | with_reducible refine CallX.data ?_
    | refine CallE.mk _ _ (s) ?_
    | refine CallE.mk _ _ (dcmp_sim (p := p) (q := dof (zv b l) e) (.of (hr.1.mono (by decide))) (.mk _ _ _ (by assumption) (by assumption) (by assumption) (by assumption)) h1) ?_
    | refine CallE.mk _ _ (dcmp_sim (p := dof (zv b l) e) (q := q) (.mk _ _ _ (by assumption) (by assumption) (by assumption) (by assumption)) (.of (hr.2.mono (by decide))) h2) ?_
    | refine RegE.early (Cd.mk (show regOk _ _ _ _ = true by kernel_rfl) ?_)
    | refine Cd.mk rfl ?_
    | refine Br.t ?_
    | refine Br.f ?_
    | with_reducible refine Br.dec (fun _ => ?_) (fun _ => ?_)
    | (refine TkE.fL ?_; (conv => whnf); fail_if_success (show forceL _ _))
    | refine Res.mk ?_
    | ((with_reducible refine EqE.idS ?_); (refine EqE.fP ?_; (conv => whnf); fail_if_success (show forceL _ _)))
    | refine Cd.mk (Nat.le_of_ble_eq_true rfl) ?_)
  · rename_i h
    refine congrArg D.bool (decide_eq_decide.2 ?_)
    rw [dsg_sub_le] at h ⊢
    exact ⟨fun g => g.2, fun g => ⟨h, g⟩⟩
  · rename_i h
    rw [dsg_sub_le] at h
    exact congrArg D.bool (decide_eq_false fun g => h g.1)
theorem iin_of (z w : Cq) : (ihas (rof w) (rof z).1 ∧ ihas (rof w) (rof z).2) ↔ iin (rof z) (rof w) := by
  have := rof_ord z
  unfold ihas iin Ord at *; grind
theorem rlAdd_is {x y : D} {z w r : Cq} (hx : CxR x z) (hy : CxR y w) (hz : Hc 1000000 z) (hw : Hc 1000000 w) (h : iadd (rof z) (rof w) = r) : Sim Tryz.prog G0 false 133 [x, y] (cxD r) := by
  subst h
  have hr := hz.rof
  have hs := hw.rof
  have s := rlof_is hx hz rfl
  have s' := rlof_is hy hw rfl
  generalize rof z = r at *
  generalize rof w = r' at *
  obtain ⟨p, q⟩ := r
  obtain ⟨p', q'⟩ := r'
  obtain ⟨_, _⟩ := hx
  obtain ⟨_, _⟩ := hy
  refine sim_mk tab_ok Tryz.func133 rfl (by kernel_rfl) rfl ⟨Nat.le_of_ble_eq_true rfl, Nat.le_of_ble_eq_true rfl⟩ ?_
  repeat' ((conv => whnf); first
    | refine CallE.mk _ _ (s) ?_
    | refine CallE.mk _ _ (s') ?_
    | refine CallE.mk _ _ (dadd_sim (p := p) (q := p') (.of (hr.1.mono (by decide))) (.of (hs.1.mono (by decide)))) ?_
    | refine CallE.mk _ _ (dadd_sim (p := q) (q := q') (.of (hr.2.mono (by decide))) (.of (hs.2.mono (by decide)))) ?_
    | refine RegE.early (Cd.mk (show regOk _ _ _ _ = true by kernel_rfl) ?_)
    | refine Cd.mk rfl ?_
    | (refine TkE.fL ?_; (conv => whnf); fail_if_success (show forceL _ _))
    | refine Res.mk ?_
    | ((with_reducible refine EqE.idS ?_); (refine EqE.fP ?_; (conv => whnf); fail_if_success (show forceL _ _)))
    | refine Cd.mk (Nat.le_of_ble_eq_true rfl) ?_)
  rfl
theorem rlNeg_is {x : D} {z r : Cq} (hx : CxR x z) (hz : Hc 1000000 z) (h : ineg (rof z) = r) : Sim Tryz.prog G0 false 86 [x] (cxD r) := by
  subst h
  have hr := hz.rof
  have s := rlof_is hx hz rfl
  generalize rof z = r at *
  obtain ⟨p, q⟩ := r
  obtain ⟨_, _⟩ := hx
  refine sim_mk tab_ok Tryz.func86 rfl (by kernel_rfl) rfl ⟨Nat.le_of_ble_eq_true rfl, Nat.le_of_ble_eq_true rfl⟩ ?_
  repeat' ((conv => whnf); first
    | with_reducible refine CallX.data ?_
    | refine CallE.mk _ _ (s) ?_
    | refine CallE.mk _ _ (dneg_sim (p := q) (.of (hr.2.mono (by decide)))) ?_
    | refine CallE.mk _ _ (dneg_sim (p := p) (.of (hr.1.mono (by decide)))) ?_
    | refine RegE.early (Cd.mk (show regOk _ _ _ _ = true by kernel_rfl) ?_)
    | refine Cd.mk rfl ?_
    | (refine TkE.fL ?_; (conv => whnf); fail_if_success (show forceL _ _))
    | refine Res.mk ?_
    | ((with_reducible refine EqE.idS ?_); (refine EqE.fP ?_; (conv => whnf); fail_if_success (show forceL _ _)))
    | refine Cd.mk (Nat.le_of_ble_eq_true rfl) ?_)
  rfl
theorem rlSub_is {x y : D} {z w r : Cq} (hx : CxR x z) (hy : CxR y w) (hz : Hc 1000000 z) (hw : Hc 1000000 w) (h : isub (rof z) (rof w) = r) : Sim Tryz.prog G0 false 147 [x, y] (cxD r) := by
  subst h
  have hs := hw.rof
  have s' := rlNeg_is hy hw rfl
  have ho := ineg_ord (rof_ord w)
  unfold isub
  have hn := hs.ineg
  generalize ineg (rof w) = r' at *
  have a := rlAdd_is hx (.of (hn.mono (by decide))) hz hn rfl
  rw [rof_self ho] at a
  generalize iadd (rof z) r' = t at *
  obtain ⟨p', q'⟩ := r'
  obtain ⟨_, _⟩ := hx
  obtain ⟨_, _⟩ := hy
  refine sim_mk tab_ok Tryz.func147 rfl (by kernel_rfl) rfl ⟨Nat.le_of_ble_eq_true rfl, Nat.le_of_ble_eq_true rfl⟩ ?_
  repeat' ((conv => whnf); first
    | refine CallE.mk _ _ (s') ?_
    | refine CallE.mk _ _ (a) ?_
    | refine RegE.early (Cd.mk (show regOk _ _ _ _ = true by kernel_rfl) ?_)
    | refine Cd.mk rfl ?_
    | (refine TkE.fL ?_; (conv => whnf); fail_if_success (show forceL _ _))
    | refine Res.mk ?_
    | ((with_reducible refine EqE.idS ?_); (refine EqE.fP ?_; (conv => whnf); fail_if_success (show forceL _ _)))
    | refine Cd.mk (Nat.le_of_ble_eq_true rfl) ?_)
  rfl
theorem rlAbs_is {x : D} {z r : Cq} (hx : CxR x z) (hz : Hc 1000000 z) (h : iabs (rof z) = r) : Sim Tryz.prog G0 false 228 [x] (cxD r) := by
  subst h
  have ho := rof_ord z
  have hr := hz.rof
  have s := rlof_is hx hz rfl
  rw [iabs_of ho]
  generalize rof z = r at *
  have n := rlNeg_is (.of (hr.mono (by decide))) hr rfl
  rw [rof_self ho] at n
  have hm := hr.1.neg.sub hr.2 (c := 1048576) (by decide)
  obtain ⟨p, q⟩ := r
  obtain ⟨_, _⟩ := hx
  refine sim_mk tab_ok Tryz.func228 rfl (by kernel_rfl) rfl ⟨Nat.le_of_ble_eq_true rfl, Nat.le_of_ble_eq_true rfl⟩ ?_
  repeat' ((conv => whnf); first
    | with_reducible refine CallX.data ?_
    | refine CallE.mk _ _ (s) ?_
    | refine CallE.mk _ _ (dsign_sim (q := p) (.of (hr.1.mono (by decide)))) ?_
    | refine CallE.mk _ _ (dsign_sim (q := q) (.of (hr.2.mono (by decide)))) ?_
    | refine CallE.mk _ _ (n) ?_
    | refine CallE.mk _ _ (dneg_sim (p := p) (.of (hr.1.mono (by decide)))) ?_
    | refine CallE.mk _ _ (dmax_is (p := -p) (q := q) (.of (hr.1.neg.mono (by decide))) (.of (hr.2.mono (by decide))) hm rfl) ?_
    | refine RegE.early (Cd.mk (show regOk _ _ _ _ = true by kernel_rfl) ?_)
    | refine Cd.mk rfl ?_
    | with_reducible refine Br.dec (fun _ => ?_) (fun _ => ?_)
    | (refine TkE.fL ?_; (conv => whnf); fail_if_success (show forceL _ _))
    | refine Res.mk ?_
    | ((with_reducible refine EqE.idS ?_); (refine EqE.fP ?_; (conv => whnf); fail_if_success (show forceL _ _)))
    | refine Cd.mk (Nat.le_of_ble_eq_true rfl) ?_)
  · rename_i h
    rw [if_pos (dsg_ge.1 h)]; rfl
  · rename_i h h2
    rw [if_neg (fun g => h (dsg_ge.2 g)), if_pos (dsg_le.1 h2)]; rfl
  · rename_i h h2
    rw [if_neg (fun g => h (dsg_ge.2 g)), if_neg (fun g => h2 (dsg_le.2 g))]
    show _ = D.agg [.bool _, sl [], .int .i64 _, _, _, _]
    rw [← ofN_zero]; rfl
theorem rlHull_is {x y : D} {z w r : Cq} (hx : CxR x z) (hy : CxR y w) (hz : Hc 1000000 z) (hw : Hc 1000000 w) (h : ihull (rof z) (rof w) = r) : Sim Tryz.prog G0 false 67 [x, y] (cxD r) := by
  subst h
  have hr := hz.rof
  have hs := hw.rof
  have s := rlof_is hx hz rfl
  have s' := rlof_is hy hw rfl
  generalize rof z = r at *
  obtain ⟨r', er⟩ : ∃ r', r' = rof w := ⟨_, rfl⟩
  rw [← er] at s' hs ⊢
  have h1 := hr.1.sub hs.1 (c := 1048576) (by decide)
  have h2 := hr.2.sub hs.2 (c := 1048576) (by decide)
  obtain ⟨p, q⟩ := r
  obtain ⟨p', q'⟩ := r'
  obtain ⟨_, _⟩ := hx
  obtain ⟨_, _⟩ := hy
  refine sim_mk tab_ok Tryz.func67 rfl (by kernel_rfl) rfl ⟨Nat.le_of_ble_eq_true rfl, Nat.le_of_ble_eq_true rfl⟩ ?_
  repeat' ((conv => whnf); first
    | refine CallE.mk _ _ (s) ?_
    | refine CallE.mk _ _ (s') ?_
    | refine CallE.mk _ _ (dmin_is (p := p) (q := p') (.of (hr.1.mono (by decide))) (.of (hs.1.mono (by decide))) h1 rfl) ?_
    | refine CallE.mk _ _ (dmax_is (p := q) (q := q') (.of (hr.2.mono (by decide))) (.of (hs.2.mono (by decide))) h2 rfl) ?_
    | refine RegE.early (Cd.mk (show regOk _ _ _ _ = true by kernel_rfl) ?_)
    | refine Cd.mk rfl ?_
    | (refine TkE.fL ?_; (conv => whnf); fail_if_success (show forceL _ _))
    | refine Res.mk ?_
    | ((with_reducible refine EqE.idS ?_); (refine EqE.fP ?_; (conv => whnf); fail_if_success (show forceL _ _)))
    | refine Cd.mk (Nat.le_of_ble_eq_true rfl) ?_)
  rfl
theorem rlMeet_is {x y : D} {z w r : Cq} {t : Bool} (hx : CxR x z) (hy : CxR y w) (hz : Hc 1000000 z) (hw : Hc 1000000 w) (h : imeet (rof z) (rof w) = (r, t)) : Sim Tryz.prog G0 false 140 [x, y] (.tup [cxD r, .bool t]) := by
  have hr := hz.rof
  have hs := hw.rof
  have s := rlof_is hx hz rfl
  have s' := rlof_is hy hw rfl
  generalize rof z = a at *
  obtain ⟨b, er⟩ : ∃ r', r' = rof w := ⟨_, rfl⟩
  rw [← er] at s' hs h
  have h1 := hr.1.sub hs.1 (c := 1048576) (by decide)
  have h2 := hr.2.sub hs.2 (c := 1048576) (by decide)
  obtain ⟨p, q⟩ := a
  obtain ⟨p', q'⟩ := b
  have hm : Hc 1000000 (mx p p', mn q q') := ⟨hr.1.mx hs.1, hr.2.mn hs.2⟩
  have i := rlIs_is (z := (mx p p', mn q q')) (.of (hm.mono (by decide))) hm rfl
  obtain ⟨_, _⟩ := hx
  obtain ⟨_, _⟩ := hy
  unfold imeet at h
  dsimp only at h i
  refine sim_mk tab_ok Tryz.func140 rfl (by kernel_rfl) rfl ⟨Nat.le_of_ble_eq_true rfl, Nat.le_of_ble_eq_true rfl⟩ ?_
  repeat' ((conv => whnf); first
    | with_reducible refine CallX.data ?_
    | refine CallE.mk _ _ (s) ?_
    | refine CallE.mk _ _ (s') ?_
    | refine CallE.mk _ _ (dmax_is (p := p) (q := p') (.of (hr.1.mono (by decide))) (.of (hs.1.mono (by decide))) h1 rfl) ?_
    | refine CallE.mk _ _ (dmin_is (p := q) (q := q') (.of (hr.2.mono (by decide))) (.of (hs.2.mono (by decide))) h2 rfl) ?_
    | refine CallE.mk _ _ (i) ?_
    | refine RegE.early (Cd.mk (show regOk _ _ _ _ = true by kernel_rfl) ?_)
    | refine Cd.mk rfl ?_
    | with_reducible refine Br.ndec (fun _ => ?_) (fun _ => ?_)
    | (refine TkE.fL ?_; (conv => whnf); fail_if_success (show forceL _ _))
    | refine Res.mk ?_
    | ((with_reducible refine EqE.idS ?_); (refine EqE.fP ?_; (conv => whnf); fail_if_success (show forceL _ _)))
    | refine Cd.mk (Nat.le_of_ble_eq_true rfl) ?_)
  · rename_i g
    rw [if_neg g] at h; cases h
    show _ = D.tup [D.agg [.bool _, sl [], .int .i64 _, .bool _, sl [], .int .i64 _], _]
    rw [← ofN_zero]; rfl
  · rename_i g
    rw [if_pos g] at h; cases h; rfl
theorem rlPow_is {x : D} {z r : Cq} (n : Int) (hx : CxR x z) (hz : Hc 16000 z) (h : ipow (rof z) n = r) : Sim Tryz.prog G0 false 206 [x, .int .i64 n] (cxD r) := by
  subst h
  have ho := rof_ord z
  have hr := hz.rof
  have s := rlof_is hx (hz.mono (by decide)) rfl
  generalize rof z = r at *
  have ab := rlAbs_is (.of (hr.mono (by decide))) (hr.mono (by decide)) rfl
  rw [rof_self ho] at ab
  have ha := hr.iabs
  have hn : (min (max n 0) 64).toNat = clampP n := rfl
  have hc : min (max (min (max n 0) 64) 0) 64 = min (max n 0) 64 := by omega
  have ht : (min (max n 0) 64).tmod 2 = ((clampP n % 2 : Nat) : Int) := by
    rw [Int.tmod_eq_emod_of_nonneg (by omega)]; unfold clampP; omega
  unfold ipow
  generalize iabs r = a at *
  obtain ⟨p, q⟩ := r
  obtain ⟨p', q'⟩ := a
  have d1 := dpow_sim (p := p) (min (max n 0) 64) (.of (hr.1.mono (by decide))) hr.1
  have d2 := dpow_sim (p := q) (min (max n 0) 64) (.of (hr.2.mono (by decide))) hr.2
  have d3 := dpow_sim (p := p') (min (max n 0) 64) (.of (ha.1.mono (by decide))) ha.1
  have d4 := dpow_sim (p := q') (min (max n 0) 64) (.of (ha.2.mono (by decide))) ha.2
  rw [hc, hn] at d1 d2 d3 d4
  obtain ⟨_, _⟩ := hx
  refine sim_mk tab_ok Tryz.func206 rfl (by kernel_rfl) rfl ⟨Nat.le_of_ble_eq_true rfl, Nat.le_of_ble_eq_true rfl⟩ ?_
  by_cases hp : clampP n % 2 = 0
  · rw [if_pos hp]
    rw [hp] at ht
    repeat' ((conv => whnf); first
      | with_reducible refine CallX.data ?_
      | refine CallE.mk _ _ (s) ?_
      | refine CallE.mk _ _ (ab) ?_
      | refine CallE.mk _ _ (d3) ?_
      | refine CallE.mk _ _ (d4) ?_
      | refine RegE.early (Cd.mk (show regOk _ _ _ _ = true by kernel_rfl) ?_)
      | refine Cd.mk rfl ?_
      | refine Br.t ?_
      | (refine TkE.fL ?_; (conv => whnf); fail_if_success (show forceL _ _))
      | refine Res.mk ?_
      | ((with_reducible refine EqE.idM ?_); refine EqE.mk _ ht ?_)
      | ((with_reducible refine EqE.idI ?_); first | refine EqE.mk _ (max_eq _ _) ?_ | refine EqE.mk _ (min_eq _ _) ?_)
      | ((with_reducible refine EqE.idS ?_); (refine EqE.fP ?_; (conv => whnf); fail_if_success (show forceL _ _)))
      | refine Cd.mk (Nat.le_of_ble_eq_true rfl) ?_
      | refine Cd.mk (by first | omega | (simp only [length_limbs, length_la]; omega)) ?_)
    rfl
  · rw [if_neg hp]
    have hp1 : clampP n % 2 = 1 := by omega
    rw [hp1] at ht
    repeat' ((conv => whnf); first
      | with_reducible refine CallX.data ?_
      | refine CallE.mk _ _ (s) ?_
      | refine CallE.mk _ _ (d1) ?_
      | refine CallE.mk _ _ (d2) ?_
      | refine RegE.early (Cd.mk (show regOk _ _ _ _ = true by kernel_rfl) ?_)
      | refine Cd.mk rfl ?_
      | refine Br.f ?_
      | (refine TkE.fL ?_; (conv => whnf); fail_if_success (show forceL _ _))
      | refine Res.mk ?_
      | ((with_reducible refine EqE.idM ?_); refine EqE.mk _ ht ?_)
      | ((with_reducible refine EqE.idI ?_); first | refine EqE.mk _ (max_eq _ _) ?_ | refine EqE.mk _ (min_eq _ _) ?_)
      | ((with_reducible refine EqE.idS ?_); (refine EqE.fP ?_; (conv => whnf); fail_if_success (show forceL _ _)))
      | refine Cd.mk (Nat.le_of_ble_eq_true rfl) ?_
      | refine Cd.mk (by first | omega | (simp only [length_limbs, length_la]; omega)) ?_)
    rfl
theorem rlSquare_is {x : D} {z r : Cq} (hx : CxR x z) (hz : Hc 16000 z) (h : ipow (rof z) 2 = r) : Sim Tryz.prog G0 false 180 [x] (cxD r) := by
  have s := rlPow_is 2 hx hz h
  obtain ⟨_, _⟩ := hx
  refine sim_mk tab_ok Tryz.func180 rfl (by kernel_rfl) rfl ⟨Nat.le_of_ble_eq_true rfl, Nat.le_of_ble_eq_true rfl⟩ ?_
  repeat' ((conv => whnf); first
    | with_reducible refine CallX.data ?_
    | refine CallE.mk _ _ (s) ?_
    | refine RegE.early (Cd.mk (show regOk _ _ _ _ = true by kernel_rfl) ?_)
    | refine Cd.mk rfl ?_
    | (refine TkE.fL ?_; (conv => whnf); fail_if_success (show forceL _ _))
    | refine Res.mk ?_
    | ((with_reducible refine EqE.idS ?_); (refine EqE.fP ?_; (conv => whnf); fail_if_success (show forceL _ _)))
    | refine Cd.mk (Nat.le_of_ble_eq_true rfl) ?_)
  rfl
/-- A number's cells. -/
def dyC (q : Dyadic) : List A := [.d (.bool (zneg (dman q))), .d (sl (ofN (dman q).natAbs)), .d (.int .i64 (dexp q))]
end Go.Ev.Ar

namespace Go.Ev.Ar
open Go Go.Ev Go.Proofs

/-- A rectangle, as it must be told. -/
def rcD (a b : Cq) : D := .agg [.bool (zneg (dman a.1)), sl (ofN (dman a.1).natAbs), .int .i64 (dexp a.1), .bool (zneg (dman a.2)), sl (ofN (dman a.2).natAbs), .int .i64 (dexp a.2), .bool (zneg (dman b.1)), sl (ofN (dman b.1).natAbs), .int .i64 (dexp b.1), .bool (zneg (dman b.2)), sl (ofN (dman b.2).natAbs), .int .i64 (dexp b.2)]
/-- Data that means two pairs of numbers. -/
inductive RcR : D → Cq → Cq → Prop where
  | mk {b : Bool} {l : List UInt32} {e : Int} {c : Bool} {k : List UInt32} {f : Int} {b' : Bool} {l' : List UInt32} {e' : Int} {c' : Bool} {k' : List UInt32} {f' : Int} {z w : Cq}
    (h1 : CxR (.agg [.bool b, sl l, .int .i64 e, .bool c, sl k, .int .i64 f]) z) (h2 : CxR (.agg [.bool b', sl l', .int .i64 e', .bool c', sl k', .int .i64 f']) w) :
    RcR (.agg [.bool b, sl l, .int .i64 e, .bool c, sl k, .int .i64 f, .bool b', sl l', .int .i64 e', .bool c', sl k', .int .i64 f']) z w
theorem RcR.of {a b : Cq} (h : Hc 1048576 a) (k : Hc 1048576 b) : RcR (rcD a b) a b := .mk (.of h) (.of k)

/-- What two rectangles have in common. -/
def rmeet (a b c d : Cq) : Cq × Cq × Bool := if (imeet a c).2 && (imeet b d).2 then ((imeet a c).1, (imeet b d).1, true) else ((0, 0), (0, 0), false)
theorem gAdd_is {x y : D} {a b r : Cq} (hx : CxR x a) (hy : CxR y b) (h : (a.1 + b.1, a.2 + b.2) = r) : Sim Tryz.prog G0 false 151 [x, y] (cxD r) := by
  subst h
  obtain ⟨h1, h2⟩ := hx
  obtain ⟨h3, h4⟩ := hy
  refine sim_mk tab_ok Tryz.func151 rfl (by kernel_rfl) rfl ⟨Nat.le_of_ble_eq_true rfl, Nat.le_of_ble_eq_true rfl⟩ ?_
  repeat' ((conv => whnf); first
    | refine CallE.mk _ _ (dadd_sim h1 h3) ?_
    | refine CallE.mk _ _ (dadd_sim h2 h4) ?_
    | refine RegE.early (Cd.mk (show regOk _ _ _ _ = true by kernel_rfl) ?_)
    | refine Cd.mk rfl ?_
    | (refine TkE.fL ?_; (conv => whnf); fail_if_success (show forceL _ _))
    | refine Res.mk ?_
    | ((with_reducible refine EqE.idS ?_); (refine EqE.fP ?_; (conv => whnf); fail_if_success (show forceL _ _)))
    | refine Cd.mk (Nat.le_of_ble_eq_true rfl) ?_)
  rfl
theorem gScale_is {x : D} {a r : Cq} (n : Int) (hx : CxR x a) (h : (a.1 * dof 1 (min (max n (-20000)) 20000), a.2 * dof 1 (min (max n (-20000)) 20000)) = r) : Sim Tryz.prog G0 false 91 [x, .int .i64 n] (cxD r) := by
  subst h
  obtain ⟨h1, h2⟩ := hx
  refine sim_mk tab_ok Tryz.func91 rfl (by kernel_rfl) rfl ⟨Nat.le_of_ble_eq_true rfl, Nat.le_of_ble_eq_true rfl⟩ ?_
  repeat' ((conv => whnf); first
    | refine CallE.mk _ _ (dscale_sim n h1) ?_
    | refine CallE.mk _ _ (dscale_sim n h2) ?_
    | refine RegE.early (Cd.mk (show regOk _ _ _ _ = true by kernel_rfl) ?_)
    | refine Cd.mk rfl ?_
    | (refine TkE.fL ?_; (conv => whnf); fail_if_success (show forceL _ _))
    | refine Res.mk ?_
    | ((with_reducible refine EqE.idS ?_); (refine EqE.fP ?_; (conv => whnf); fail_if_success (show forceL _ _)))
    | refine Cd.mk (Nat.le_of_ble_eq_true rfl) ?_)
  rfl
theorem gSame_is {x y : D} {a b : Cq} {t : Bool} (hx : CxR x a) (hy : CxR y b) (ha : Hc 1000000 a) (hb : Hc 1000000 b) (h : decide (a = b) = t) : Sim Tryz.prog G0 true 150 [x, y] (.bool t) := by
  subst h
  obtain ⟨h1, h2⟩ := hx
  obtain ⟨h3, h4⟩ := hy
  refine sim_mk tab_ok Tryz.func150 rfl (by kernel_rfl) rfl ⟨Nat.le_of_ble_eq_true rfl, Nat.le_of_ble_eq_true rfl⟩ ?_
  repeat' ((conv => whnf); first
    | with_reducible refine CallX.data ?_
    | refine CallE.mk _ _ (dsame_sim h1 h3 (ha.1.sub hb.1 (by decide))) ?_
    | refine CallE.mk _ _ (dsame_sim h2 h4 (ha.2.sub hb.2 (by decide))) ?_
    | refine RegE.early (Cd.mk (show regOk _ _ _ _ = true by kernel_rfl) ?_)
    | refine Cd.mk rfl ?_
    | refine Br.t ?_
    | refine Br.f ?_
    | with_reducible refine Br.dec (fun _ => ?_) (fun _ => ?_)
    | (refine TkE.fL ?_; (conv => whnf); fail_if_success (show forceL _ _))
    | refine Res.mk ?_)
  · rename_i h
    refine congrArg D.bool (decide_eq_decide.2 ?_)
    rw [Prod.mk.injEq]; exact ⟨fun g => g.2, fun g => ⟨h, g⟩⟩
  · rename_i h
    refine congrArg D.bool (decide_eq_false fun g => h ?_)
    rw [Prod.mk.injEq] at g; exact g.1
end Go.Ev.Ar
