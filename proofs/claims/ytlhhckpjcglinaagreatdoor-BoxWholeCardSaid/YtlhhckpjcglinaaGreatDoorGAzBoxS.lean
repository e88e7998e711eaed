/- Contracts of the given functions, on data. Conditions stand in each theorem. -/
import Derived.Test.YtlhhckpjcglinaaGreatDoorGAzBox
import Derived.Test.YtlhhckpjcglinaaGreatDoorAzRRect
import Derived.Test.YtlhhckpjcglinaaGreatDoorGEvU
set_option linter.unusedSimpArgs false
set_option linter.unusedVariables false
namespace Go.Ev.Ar
open Go Go.Ev Go.Proofs

/- THE REFERENCE's SQUARES -/
theorem rcadd16 {a b w : Cq} (ha : Hc 40000 a) (hb : Hc 40000 b) (h : (a.1 + b.1, a.2 + b.2) = w) : Sim Tryz.prog G0 false 22 [cxD a, cxD b] (cxD w) := by
  subst h
  have s1 := rdadd_sim (ha.1.mono (show 40000 ≤ 49000 by decide)) (hb.1.mono (by decide))
  have s2 := rdadd_sim (ha.2.mono (show 40000 ≤ 49000 by decide)) (hb.2.mono (by decide))
  obtain ⟨_, _⟩ := a
  obtain ⟨_, _⟩ := b
  refine sim_mk tab_ok Tryz.func22 rfl (by kernel_rfl) rfl ⟨Nat.le_of_ble_eq_true rfl, Nat.le_of_ble_eq_true rfl⟩ ?_
  repeat' ((conv => whnf); first
    | refine CallE.mk _ _ (s1) ?_
    | refine CallE.mk _ _ (s2) ?_
    | refine RegE.early (Cd.mk (show regOk _ _ _ _ = true by kernel_rfl) ?_)
    | refine Cd.mk rfl ?_
    | (refine TkE.fL ?_; (conv => whnf); fail_if_success (show forceL _ _))
    | refine Res.mk ?_
    | ((with_reducible refine EqE.idS ?_); (refine EqE.fP ?_; (conv => whnf); fail_if_success (show forceL _ _)))
    | refine Cd.mk (Nat.le_of_ble_eq_true rfl) ?_)
  rfl
def sqR (c : Cq) (r : Dyadic) : Rq := ((c.1 - r, c.1 + r), (c.2 - r, c.2 + r))
theorem hr_sq {c : Cq} {r : Dyadic} {a b : Nat} (hc : Hc a c) (hr : Ht a r) (h : a < b) : Hr b (sqR c r) := ⟨⟨hc.1.sub hr (by omega), hc.1.add hr (by omega)⟩, ⟨hc.2.sub hr (by omega), hc.2.add hr (by omega)⟩⟩
theorem rSquare_is {c : Cq} {r : Dyadic} (hc : Hc 40000 c) (hr : Ht 40000 r) : Sim Tryz.prog G0 false 17 [cxD c, dyD r] (rqD (sqR c r)) := by
  have s1 := rdsub_sim (hc.1.mono (show 40000 ≤ 49000 by decide)) (hr.mono (show 40000 ≤ 49000 by decide))
  have s2 := rdadd_sim (hc.1.mono (show 40000 ≤ 49000 by decide)) (hr.mono (show 40000 ≤ 49000 by decide))
  have s3 := rdsub_sim (hc.2.mono (show 40000 ≤ 49000 by decide)) (hr.mono (show 40000 ≤ 49000 by decide))
  have s4 := rdadd_sim (hc.2.mono (show 40000 ≤ 49000 by decide)) (hr.mono (show 40000 ≤ 49000 by decide))
  unfold sqR
  generalize c.1 - r = p1 at *
  generalize c.1 + r = p2 at *
  generalize c.2 - r = p3 at *
  generalize c.2 + r = p4 at *
  obtain ⟨_, _⟩ := c
  refine sim_mk tab_ok Tryz.func17 rfl (by kernel_rfl) rfl ⟨Nat.le_of_ble_eq_true rfl, Nat.le_of_ble_eq_true rfl⟩ ?_
  repeat' ((conv => whnf); first
    | refine CallE.mk _ _ (s1) ?_
    | refine CallE.mk _ _ (s2) ?_
    | refine CallE.mk _ _ (s3) ?_
    | refine CallE.mk _ _ (s4) ?_
    | refine RegE.early (Cd.mk (show regOk _ _ _ _ = true by kernel_rfl) ?_)
    | refine Cd.mk rfl ?_
    | (refine TkE.fL ?_; (conv => whnf); fail_if_success (show forceL _ _))
    | refine Res.mk ?_
    | ((with_reducible refine EqE.idS ?_); (refine EqE.fP ?_; (conv => whnf); fail_if_success (show forceL _ _)))
    | refine Cd.mk (Nat.le_of_ble_eq_true rfl) ?_)
  rfl
theorem imeet_t {z w r : Cq} {t : Bool} (h : imeet z w = (r, t)) : decide (mx z.1 w.1 ≤ mn z.2 w.2) = t := by
  unfold imeet at h
  split at h
  · cases h; rename_i g; exact decide_eq_true g
  · cases h; rename_i g; exact decide_eq_false g
theorem rTouch_is {z w : Rq} {t : Bool} (hz : Hr 48000 z) (hw : Hr 48000 w) (h : decide (mx z.1.1 w.1.1 ≤ mn z.1.2 w.1.2 ∧ mx z.2.1 w.2.1 ≤ mn z.2.2 w.2.2) = t) : Sim Tryz.prog G0 true 36 [rqD z, rqD w] (.bool t) := by
  subst h
  obtain ⟨⟨⟨u1, v1⟩, t1⟩, h1⟩ : ∃ m, imeet z.1 w.1 = m := ⟨_, rfl⟩
  obtain ⟨⟨⟨u2, v2⟩, t2⟩, h2⟩ : ∃ m, imeet z.2 w.2 = m := ⟨_, rfl⟩
  have m1 := rMeet_is hz.1 hw.1 h1
  have m2 := rMeet_is hz.2 hw.2 h2
  have e1 := imeet_t h1
  have e2 := imeet_t h2
  clear h1 h2
  obtain ⟨⟨_, _⟩, ⟨_, _⟩⟩ := z
  obtain ⟨⟨_, _⟩, ⟨_, _⟩⟩ := w
  rw [Bool.decide_and, e1, e2]
  clear e1 e2
  refine sim_mk tab_ok Tryz.func36 rfl (by kernel_rfl) rfl ⟨Nat.le_of_ble_eq_true rfl, Nat.le_of_ble_eq_true rfl⟩ ?_
  cases t1
  · repeat' ((conv => whnf); first
      | with_reducible refine CallX.data ?_
      | refine CallE.mk _ _ (m1) ?_
      | refine CallE.mk _ _ (m2) ?_
      | refine RegE.early (Cd.mk (show regOk _ _ _ _ = true by kernel_rfl) ?_)
      | refine Cd.mk rfl ?_
      | refine Br.f ?_
      | refine NthE.mk _ rfl ?_
      | (refine TkE.fL ?_; (conv => whnf); fail_if_success (show forceL _ _))
      | refine Res.mk ?_
      | ((with_reducible refine EqE.idS ?_); (refine EqE.fP ?_; (conv => whnf); fail_if_success (show forceL _ _)))
      | refine Cd.mk (Nat.le_of_ble_eq_true rfl) ?_)
    rfl
  · repeat' ((conv => whnf); first
      | with_reducible refine CallX.data ?_
      | refine CallE.mk _ _ (m1) ?_
      | refine CallE.mk _ _ (m2) ?_
      | refine RegE.early (Cd.mk (show regOk _ _ _ _ = true by kernel_rfl) ?_)
      | refine Cd.mk rfl ?_
      | refine Br.t ?_
      | refine NthE.mk _ rfl ?_
      | (refine TkE.fL ?_; (conv => whnf); fail_if_success (show forceL _ _))
      | refine Res.mk ?_
      | ((with_reducible refine EqE.idS ?_); (refine EqE.fP ?_; (conv => whnf); fail_if_success (show forceL _ _)))
      | refine Cd.mk (Nat.le_of_ble_eq_true rfl) ?_)
    rfl
def nrmP (c : Cq) : Dyadic := c.1 * c.1 + c.2 * c.2
theorem rcneg16 {a w : Cq} (ha : Hc 50000 a) (h : (-a.1, -a.2) = w) : Sim Tryz.prog G0 false 121 [cxD a] (cxD w) := by
  subst h
  have s1 := rdneg_sim ha.1
  have s2 := rdneg_sim ha.2
  obtain ⟨_, _⟩ := a
  refine sim_mk tab_ok Tryz.func121 rfl (by kernel_rfl) rfl ⟨Nat.le_of_ble_eq_true rfl, Nat.le_of_ble_eq_true rfl⟩ ?_
  repeat' ((conv => whnf); first
    | refine CallE.mk _ _ (s1) ?_
    | refine CallE.mk _ _ (s2) ?_
    | refine RegE.early (Cd.mk (show regOk _ _ _ _ = true by kernel_rfl) ?_)
    | refine Cd.mk rfl ?_
    | (refine TkE.fL ?_; (conv => whnf); fail_if_success (show forceL _ _))
    | refine Res.mk ?_
    | ((with_reducible refine EqE.idS ?_); (refine EqE.fP ?_; (conv => whnf); fail_if_success (show forceL _ _)))
    | refine Cd.mk (Nat.le_of_ble_eq_true rfl) ?_)
  rfl
theorem rcsub16 {a b w : Cq} (ha : Hc 40000 a) (hb : Hc 40000 b) (h : (a.1 - b.1, a.2 - b.2) = w) : Sim Tryz.prog G0 false 118 [cxD a, cxD b] (cxD w) := by
  subst h
  have s1 := rcneg16 (hb.mono (show 40000 ≤ 50000 by decide)) rfl
  have s2 := rcadd16 (a := a) (b := (-b.1, -b.2)) (w := (a.1 - b.1, a.2 - b.2)) ha ⟨hb.1.neg, hb.2.neg⟩ (by dsimp only; congr 1 <;> grind)
  generalize a.1 - b.1 = p at *
  generalize a.2 - b.2 = q at *
  obtain ⟨_, _⟩ := a
  obtain ⟨_, _⟩ := b
  refine sim_mk tab_ok Tryz.func118 rfl (by kernel_rfl) rfl ⟨Nat.le_of_ble_eq_true rfl, Nat.le_of_ble_eq_true rfl⟩ ?_
  repeat' ((conv => whnf); first
    | refine CallE.mk _ _ (s1) ?_
    | refine CallE.mk _ _ (s2) ?_
    | refine RegE.early (Cd.mk (show regOk _ _ _ _ = true by kernel_rfl) ?_)
    | refine Cd.mk rfl ?_
    | (refine TkE.fL ?_; (conv => whnf); fail_if_success (show forceL _ _))
    | refine Res.mk ?_
    | ((with_reducible refine EqE.idS ?_); (refine EqE.fP ?_; (conv => whnf); fail_if_success (show forceL _ _)))
    | refine Cd.mk (Nat.le_of_ble_eq_true rfl) ?_)
  rfl
theorem rcnorm16 {a : Cq} {d : Dyadic} (ha : Hc 20000 a) (h : nrmP a = d) : Sim Tryz.prog G0 false 102 [cxD a] (dyD d) := by
  subst h
  have m1 := rdmul_sim (ha.1.mono (show 20000 ≤ 25000 by decide)) (ha.1.mono (show 20000 ≤ 25000 by decide))
  have m2 := rdmul_sim (ha.2.mono (show 20000 ≤ 25000 by decide)) (ha.2.mono (show 20000 ≤ 25000 by decide))
  have s := rdadd_sim ((ha.1.mul ha.1 (c := 40000) (by decide)).mono (show 40000 ≤ 49000 by decide)) ((ha.2.mul ha.2 (c := 40000) (by decide)).mono (show 40000 ≤ 49000 by decide))
  unfold nrmP
  generalize a.1 * a.1 + a.2 * a.2 = n at *
  generalize a.1 * a.1 = p at *
  generalize a.2 * a.2 = q at *
  obtain ⟨_, _⟩ := a
  refine sim_mk tab_ok Tryz.func102 rfl (by kernel_rfl) rfl ⟨Nat.le_of_ble_eq_true rfl, Nat.le_of_ble_eq_true rfl⟩ ?_
  repeat' ((conv => whnf); first
    | refine CallE.mk _ _ (m1) ?_
    | refine CallE.mk _ _ (m2) ?_
    | refine CallE.mk _ _ (s) ?_
    | refine RegE.early (Cd.mk (show regOk _ _ _ _ = true by kernel_rfl) ?_)
    | refine Cd.mk rfl ?_
    | (refine TkE.fL ?_; (conv => whnf); fail_if_success (show forceL _ _))
    | refine Res.mk ?_
    | ((with_reducible refine EqE.idS ?_); (refine EqE.fP ?_; (conv => whnf); fail_if_success (show forceL _ _)))
    | refine Cd.mk (Nat.le_of_ble_eq_true rfl) ?_)
  rfl
theorem rHolds_is {c d : Cq} {r : Dyadic} {t : Bool} (hc : Hc 8000 c) (hd : Hc 8000 d) (hr : Ht 8000 r) (h : decide (nrmP (d.1 - c.1, d.2 - c.2) ≤ r * r) = t) : Sim Tryz.prog G0 true 41 [bxD c r, cxD d] (.bool t) := by
  subst h
  obtain ⟨w, hw⟩ : ∃ w : Cq, (d.1 - c.1, d.2 - c.2) = w := ⟨_, rfl⟩
  have s1 := rcsub16 (hd.mono (by decide)) (hc.mono (by decide)) hw
  have hwt : Hc 8001 w := hw ▸ ⟨hd.1.sub hc.1 (by decide), hd.2.sub hc.2 (by decide)⟩
  rw [hw]
  clear hw
  obtain ⟨n, hn⟩ : ∃ n, nrmP w = n := ⟨_, rfl⟩
  have s2 := rcnorm16 (hwt.mono (by decide)) hn
  have hnt : Ht 16003 n := by
    rw [← hn]; exact (hwt.1.mul hwt.1 (c := 16002) (by decide)).add (hwt.2.mul hwt.2 (c := 16002) (by decide)) (by decide)
  rw [hn]
  clear hn
  have s3 := rdmul_sim (hr.mono (show 8000 ≤ 25000 by decide)) (hr.mono (show 8000 ≤ 25000 by decide))
  have hrr : Ht 16000 (r * r) := hr.mul hr (by decide)
  generalize r * r = q at *
  have s4 := rdcmp_sim (hnt.mono (show 16003 ≤ 49000 by decide)) (hrr.mono (by decide)) ((hnt.sub (hrr.mono (show 16000 ≤ 16003 by decide)) (c := 16004) (by decide)).mono (by decide))
  obtain ⟨_, _⟩ := c
  obtain ⟨_, _⟩ := d
  obtain ⟨_, _⟩ := w
  refine sim_mk tab_ok Tryz.func41 rfl (by kernel_rfl) rfl ⟨Nat.le_of_ble_eq_true rfl, Nat.le_of_ble_eq_true rfl⟩ ?_
  repeat' ((conv => whnf); first
    | refine CallE.mk _ _ (s1) ?_
    | refine CallE.mk _ _ (s2) ?_
    | refine CallE.mk _ _ (s3) ?_
    | refine CallE.mk _ _ (s4) ?_
    | refine RegE.early (Cd.mk (show regOk _ _ _ _ = true by kernel_rfl) ?_)
    | refine Cd.mk rfl ?_
    | (refine TkE.fL ?_; (conv => whnf); fail_if_success (show forceL _ _))
    | refine Res.mk ?_)
  refine congrArg D.bool (decide_eq_decide.2 ?_)
  rw [show dsg (n - q) ≤ 0 ↔ ¬ dsg (n - q) > 0 by omega, dsg_gt]; grind
end Go.Ev.Ar

namespace Go.Ev.Ar
open Go Go.Ev Go.Proofs

def bxW (a : Cq) (h : Dyadic) : List A := dyC a.1 ++ dyC a.2 ++ dyC h
theorem few16_dd {b : Bool} {l : List UInt32} {e : Int} (h : fewD 10 1000 l e = true) : DyR (.agg [.bool b, sl l, .int .i64 e]) (dof (zv b l) e) ∧ DyF (.agg [.bool b, sl l, .int .i64 e]) (dof (zv b l) e) ∧ Ht 1320 (dof (zv b l) e) := by
  obtain ⟨h1, h2, h3⟩ := fewD_iff.1 h
  exact ⟨dyR_few (n := 10) (b := 1000) (by decide) (by decide) ⟨h1, h2, h3⟩, .mk _ _ _ (by omega) (by omega) (by omega), (ht_few (n := 10) (b := 1000) ⟨h1, h2, h3⟩).mono (by decide)⟩
/-- Is the point in one of the first k quarters? -/
def someQ (c : Cq) (s : Dyadic) (d : Cq) : Nat → Bool
  | 0 => false
  | k + 1 => someQ c s d k || decide (inB (qk c s k) s d)
theorem quarter_back {c d : Cq} {r s : Dyadic} (e : s + s = r) (hp : 0 < s) (k : Nat) (h : inB (qk c s k) s d) : inB c r d := by
  obtain ⟨⟨h1, h2⟩, ⟨h3, h4⟩⟩ := h
  revert h1 h2 h3 h4
  unfold inB qk qw
  split <;> (dsimp only; intro h1 h2 h3 h4; grind)
theorem someQ_4 {c d : Cq} {r s : Dyadic} (e : s + s = r) (hp : 0 < s) : someQ c s d 4 = decide (inB c r d) := by
  simp only [someQ, Bool.false_or]
  by_cases h : inB c r d
  · rw [decide_eq_true h]
    rcases quarter_some e h with g | g | g | g <;> rw [decide_eq_true g] <;> simp
  · rw [decide_eq_false h]
    have n : ∀ k, decide (inB (qk c s k) s d) = false := fun k => decide_eq_false fun g => h (quarter_back e hp k g)
    rw [n, n, n, n]; rfl
/-- Quarters that lie opposite to one another touch. -/
theorem quarter_touch {c : Cq} {s : Dyadic} (hp : 0 < s) : ∀ k, k ≤ 3 → bTo (qk c s k) s (qk c s (3 - k)) s := by
  intro k hk
  have : k = 0 ∨ k = 1 ∨ k = 2 ∨ k = 3 := by omega
  rcases this with rfl | rfl | rfl | rfl <;>
    (simp only [bTo, qk, qw, mx, mn, Nat.sub_zero, Nat.reduceSub]; grind)
theorem sq_le {r d : Dyadic} (h1 : -r ≤ d) (h2 : d ≤ r) : d * d ≤ r * r := by
  rcases Classical.em (0 ≤ d) with g | g
  · have a := dmul_le g h2
    have b := dmul_le (show 0 ≤ r by grind) h2
    rw [Dyadic.mul_comm] at b
    grind
  · have a := dmul_le (show 0 ≤ -d by grind) (show -d ≤ r by grind)
    have b := dmul_le (show 0 ≤ r by grind) (show -d ≤ r by grind)
    grind
theorem disc_has {c d : Cq} {r : Dyadic} (hp : 0 < r) (h : inB c r d) : nrmP (d.1 - c.1, d.2 - c.2) ≤ r * dof 3 0 * dof 1 (-1) * (r * dof 3 0 * dof 1 (-1)) := by
  obtain ⟨⟨h1, h2⟩, ⟨h3, h4⟩⟩ := h
  have a := sq_le (r := r) (d := d.1 - c.1) (by grind) (by grind)
  have b := sq_le (r := r) (d := d.2 - c.2) (by grind) (by grind)
  unfold nrmP
  dsimp only
  have e := half_two r
  have t3 : dof 3 0 = 1 + 1 + 1 := by decide
  generalize hs : r * dof 1 (-1) = s at e
  have e2 : r * dof 3 0 * dof 1 (-1) = s + s + s := by rw [t3, ← hs]; grind
  rw [e2]
  have s0 : 0 ≤ s * s := by have := dmul_le (show 0 ≤ s by grind) (show 0 ≤ s by grind); grind
  subst e
  grind
set_option maxHeartbeats 4000000 in
theorem boxwhole_sim (r : RC) (b : Bool) (l : List UInt32) (e : Int) (w : RC) : Sim Tryz.prog G0 true 4 [bcell r b l e, .agg w.cells] (.bool true) := by
  have sb := fewbox_sim r b l e
  have sc := fewcplx16_sim w
  have fr := few_cx (r := r)
  have fw := few_cx (r := w)
  have fh := few16_dd (b := b) (l := l) (e := e)
  obtain ⟨b1, l1, e1, c1, k1, f1⟩ := r
  obtain ⟨b2, l2, e2, c2, k2, f2⟩ := w
  refine sim_mk tab_ok Tryz.func4 rfl (by kernel_rfl) rfl ⟨Nat.le_of_ble_eq_true rfl, Nat.le_of_ble_eq_true rfl⟩ ?_
  cases h1 : (RC.few 10 1000 ⟨b1, l1, e1, c1, k1, f1⟩ && fewD 10 1000 l e)
  · rw [h1] at sb
    repeat' ((conv => whnf); first
      | with_reducible refine CallX.data ?_
      | refine CallE.mk _ _ (known16_sim) ?_
      | refine CallE.mk _ _ (sb) ?_
      | refine RegE.early (Cd.mk (show regOk _ _ _ _ = true by kernel_rfl) ?_)
      | refine Cd.mk rfl ?_
      | refine Br.t ?_
      | refine Br.f ?_
      | (refine TkE.fL ?_; (conv => whnf); fail_if_success (show forceL _ _))
      | refine Res.mk ?_)
    rfl
  cases h2 : RC.few 10 1000 ⟨b2, l2, e2, c2, k2, f2⟩
  · rw [h1] at sb
    rw [h2] at sc
    repeat' ((conv => whnf); first
      | with_reducible refine CallX.data ?_
      | refine CallE.mk _ _ (known16_sim) ?_
      | refine CallE.mk _ _ (sb) ?_
      | refine CallE.mk _ _ (sc) ?_
      | refine RegE.early (Cd.mk (show regOk _ _ _ _ = true by kernel_rfl) ?_)
      | refine Cd.mk rfl ?_
      | refine Br.t ?_
      | refine Br.f ?_
      | (refine TkE.fL ?_; (conv => whnf); fail_if_success (show forceL _ _))
      | refine Res.mk ?_)
    rfl
  rw [h1] at sb
  rw [h2] at sc
  rw [Bool.and_eq_true] at h1
  obtain ⟨xr, xf, xh⟩ := fr h1.1
  obtain ⟨hr, hf', hh⟩ := fh h1.2
  obtain ⟨wr, wf, wh⟩ := fw h2
  generalize hxv : RC.val ⟨b1, l1, e1, c1, k1, f1⟩ = c at xr xf xh
  generalize hwv : RC.val ⟨b2, l2, e2, c2, k2, f2⟩ = d at wr wf wh
  generalize dof (zv b l) e = h at hr hf' hh
  have bx := BxR.mk xr hr
  obtain ⟨R, hR⟩ : ∃ R, hf h = R := ⟨_, rfl⟩
  have hRt : Ht 1320 R := hR ▸ ht_hf hh (by decide)
  have hRp : 0 < R := hR ▸ hf_pos h
  have sq := half_two R
  have sQ := quarters_is bx (xh.mono (by decide)) (hh.mono (by decide)) hR rfl
  have hst : Ht 1500 (R * dof 1 (-1)) := hRt.mul (Ht.cst (m := 1) (e := -1) (by decide)) (by decide)
  have hgt : Ht 1700 (R * dof 3 0 * dof 1 (-1)) := (hRt.mul (Ht.cst (m := 3) (e := 0) (by decide)) (c := 1500) (by decide)).mul (Ht.cst (m := 1) (e := -1) (by decide)) (by decide)
  have hDt : Ht 1500 (R * dof 1 1) := hRt.mul (Ht.cst (m := 1) (e := 1) (by decide)) (by decide)
  have hself : bIn c R c R := by unfold bIn; grind
  have s1 := bDisc_is bx (hh.mono (by decide)) hR rfl
  have s2 := rcplx_sim wf
  have s3 := bDouble_is bx (hh.mono (by decide)) hR rfl
  have s4 := bTouch_is bx bx (xh.mono (by decide)) (hh.mono (by decide)) (xh.mono (by decide)) (hh.mono (by decide)) hR hR (decide_eq_true (bTo_of hRp hself))
  have eD : R * dof 1 1 = R + R := by rw [show dof 1 1 = 1 + 1 by decide]; grind
  have hDp : 0 < R * dof 1 1 := by grind
  have s5 := bIn_is bx (.of (a := c) (h := R * dof 1 1) (xh.mono (by decide)) (hDt.mono (by decide))) (xh.mono (by decide)) (hh.mono (by decide)) (xh.mono (by decide)) (hDt.mono (by decide)) hR (hf_self hDp) (decide_eq_true (show bIn c R c (R * dof 1 1) by rw [eD]; unfold bIn; grind))
  have hH : inB c R d → Sim Tryz.prog G0 true 41 _ (.bool true) := fun g => rHolds_is (xh.mono (show 1320 ≤ 8000 by decide)) (wh.mono (by decide)) (hgt.mono (by decide)) (decide_eq_true (disc_has hRp g))
  clear eD
  generalize R * dof 3 0 * dof 1 (-1) = g at *
  generalize R * dof 1 1 = g2 at *
  obtain ⟨s, hs⟩ : ∃ s, R * dof 1 (-1) = s := ⟨_, rfl⟩
  rw [hs] at sq sQ hst
  clear hs
  have hsp : 0 < s := half_pos hRp sq
  have hqz : ∀ k, Hc 1501 (qk c s k) := fun k => ht_qk (xh.mono (show 1320 ≤ 1500 by decide)) hst (by omega) k (by omega)
  have kx : ∀ k, BxR (bxD (qk c s k) s) (qk c s k) s := fun k => .of ((hqz k).mono (by omega)) (hst.mono (by omega))
  have kH : ∀ k, Sim Tryz.prog G0 true 28 [bxD (qk c s k) s, _] (.bool (decide (inB (qk c s k) s d))) := fun k => bHas_is (kx k) wr ((hqz k).mono (by omega)) (hst.mono (by omega)) (wh.mono (by decide)) (hf_self hsp) rfl
  have kI : ∀ k, Sim Tryz.prog G0 true 37 [bxD (qk c s k) s, _] (.bool true) := fun k => bIn_is (kx k) bx ((hqz k).mono (by omega)) (hst.mono (by omega)) (xh.mono (by decide)) (hh.mono (by decide)) (hf_self hsp) hR (decide_eq_true (quarter_in sq hsp hself k))
  have kT : ∀ k, k ≤ 3 → Sim Tryz.prog G0 true 35 [bxD (qk c s k) s, bxD (qk c s (3 - k)) s] (.bool true) := fun k hk => bTouch_is (kx k) (kx (3 - k)) ((hqz k).mono (by omega)) (hst.mono (by omega)) ((hqz (3 - k)).mono (by omega)) (hst.mono (by omega)) (hf_self hsp) (hf_self hsp) (decide_eq_true (quarter_touch hsp k hk))
  have kS : ∀ k, Sim Tryz.prog G0 true 25 [bxD (qk c s k) s] (.bool true) := fun k => bIs_is (kx k) (decide_eq_true hsp)
  have sW := bHas_is bx wr (xh.mono (by decide)) (hh.mono (by decide)) (wh.mono (by decide)) hR rfl
  have t4 := someQ_4 (c := c) (d := d) sq hsp
  repeat' ((conv => whnf); first
    | with_reducible refine CallX.data ?_
    | refine CallE.mk _ _ (known16_sim) ?_
    | refine CallE.mk _ _ (sb) ?_
    | refine CallE.mk _ _ (sc) ?_
    | refine CallE.mk _ _ (sQ) ?_
    | refine RegE.early (Cd.mk (show regOk _ _ _ _ = true by kernel_rfl) ?_)
    | refine Cd.mk rfl ?_
    | refine Br.f ?_
    | (refine TkE.fL ?_; (conv => whnf); fail_if_success (show forceL _ _))
    | ((with_reducible refine EqE.idS ?_); (refine EqE.fP ?_; (conv => whnf); fail_if_success (show forceL _ _)))
    | refine Cd.mk (Nat.le_of_ble_eq_true rfl) ?_)
  refine ⟨[], [2, 3, 5, 6, 7], [2, 3, 5], fun m xs h => ∃ (k : Nat), m = 4 - k ∧ k ≤ 4 ∧
      xs = [.ptr 2 0, .ptr 3 0, .ptr 5 0, .d (.bool (someQ c s d k)), .d (.int .i64 (k : Nat))] ∧ h = [(5, false, QCb c s 4), (3, false, [.d (.bool b2), .d (sl l2), .d (.int .i64 e2), .d (.bool c2), .d (sl k2), .d (.int .i64 f2)]), (2, false, [.d (.bool b1), .d (sl l1), .d (.int .i64 e1), .d (.bool c1), .d (sl k1), .d (.int .i64 f1), .d (.bool b), .d (sl l), .d (.int .i64 e)])],
    ⟨_, _, _, ⟨.inl rfl, rfl, rfl, by first | rfl | (repeat first | exact all_nil _ | refine all_la _ _ _ _ _ ?_)⟩, 0, rfl, by decide, rfl, rfl⟩, ?_⟩
  rintro m xs hp ⟨k, rfl, hk, rfl, rfl⟩
  have k4 : k = 0 ∨ k = 1 ∨ k = 2 ∨ k = 3 ∨ k = 4 := by omega
  rcases k4 with rfl | rfl | rfl | rfl | rfl
  · have kh := kH 0
    have ki := kI 0
    have kt := kT 0 (by decide)
    have ks := kS 0
    repeat' ((conv => whnf); first
      | refine CallE.mk _ _ (kh) ?_
      | refine CallE.mk _ _ (ki) ?_
      | refine CallE.mk _ _ (kt) ?_
      | refine CallE.mk _ _ (ks) ?_
      | refine RegE.early (Cd.mk (show regOk _ _ _ _ = true by kernel_rfl) ?_)
      | refine Cd.mk rfl ?_
      | refine Br.t ?_
      | refine Br.f ?_
      | (refine TkE.fL ?_; (conv => whnf); fail_if_success (show forceL _ _))
      | refine LoopEnd.go _ _ ⟨.inl rfl, rfl, rfl, by first | rfl | (repeat first | exact all_nil _ | refine all_la _ _ _ _ _ ?_)⟩ ?_
      | ((with_reducible refine EqE.idW ?_); first | with_reducible refine EqE.mk _ (n_succ _ (by omega)) ?_ | refine EqE.mk _ (wrap_in (by omega) (by omega)) ?_)
      | refine Cd.mk (by first | omega | (simp only [length_limbs, length_la]; omega)) ?_)
    exact ⟨_, ⟨1, rfl, by decide, rfl, rfl⟩, by decide⟩
  · have kh := kH 1
    have ki := kI 1
    have kt := kT 1 (by decide)
    have ks := kS 1
    cases hg : someQ c s d 1
    · repeat' ((conv => whnf); first
        | refine CallE.mk _ _ (kh) ?_
        | refine CallE.mk _ _ (ki) ?_
        | refine CallE.mk _ _ (kt) ?_
        | refine CallE.mk _ _ (ks) ?_
        | refine RegE.early (Cd.mk (show regOk _ _ _ _ = true by kernel_rfl) ?_)
        | refine Cd.mk rfl ?_
        | refine Br.t ?_
        | refine Br.f ?_
        | (refine TkE.fL ?_; (conv => whnf); fail_if_success (show forceL _ _))
        | refine LoopEnd.go _ _ ⟨.inl rfl, rfl, rfl, by first | rfl | (repeat first | exact all_nil _ | refine all_la _ _ _ _ _ ?_)⟩ ?_
        | ((with_reducible refine EqE.idW ?_); first | with_reducible refine EqE.mk _ (n_succ _ (by omega)) ?_ | refine EqE.mk _ (wrap_in (by omega) (by omega)) ?_)
        | refine Cd.mk (by first | omega | (simp only [length_limbs, length_la]; omega)) ?_)
      exact ⟨_, ⟨2, rfl, by decide, by rw [someQ, hg]; rfl, rfl⟩, by decide⟩
    · repeat' ((conv => whnf); first
        | refine CallE.mk _ _ (ki) ?_
        | refine CallE.mk _ _ (kt) ?_
        | refine CallE.mk _ _ (ks) ?_
        | refine RegE.early (Cd.mk (show regOk _ _ _ _ = true by kernel_rfl) ?_)
        | refine Cd.mk rfl ?_
        | refine Br.t ?_
        | refine Br.f ?_
        | (refine TkE.fL ?_; (conv => whnf); fail_if_success (show forceL _ _))
        | refine LoopEnd.go _ _ ⟨.inl rfl, rfl, rfl, by first | rfl | (repeat first | exact all_nil _ | refine all_la _ _ _ _ _ ?_)⟩ ?_
        | ((with_reducible refine EqE.idW ?_); first | with_reducible refine EqE.mk _ (n_succ _ (by omega)) ?_ | refine EqE.mk _ (wrap_in (by omega) (by omega)) ?_)
        | refine Cd.mk (by first | omega | (simp only [length_limbs, length_la]; omega)) ?_)
      exact ⟨_, ⟨2, rfl, by decide, by rw [someQ, hg]; rfl, rfl⟩, by decide⟩
  · have kh := kH 2
    have ki := kI 2
    have kt := kT 2 (by decide)
    have ks := kS 2
    cases hg : someQ c s d 2
    · repeat' ((conv => whnf); first
        | refine CallE.mk _ _ (kh) ?_
        | refine CallE.mk _ _ (ki) ?_
        | refine CallE.mk _ _ (kt) ?_
        | refine CallE.mk _ _ (ks) ?_
        | refine RegE.early (Cd.mk (show regOk _ _ _ _ = true by kernel_rfl) ?_)
        | refine Cd.mk rfl ?_
        | refine Br.t ?_
        | refine Br.f ?_
        | (refine TkE.fL ?_; (conv => whnf); fail_if_success (show forceL _ _))
        | refine LoopEnd.go _ _ ⟨.inl rfl, rfl, rfl, by first | rfl | (repeat first | exact all_nil _ | refine all_la _ _ _ _ _ ?_)⟩ ?_
        | ((with_reducible refine EqE.idW ?_); first | with_reducible refine EqE.mk _ (n_succ _ (by omega)) ?_ | refine EqE.mk _ (wrap_in (by omega) (by omega)) ?_)
        | refine Cd.mk (by first | omega | (simp only [length_limbs, length_la]; omega)) ?_)
      exact ⟨_, ⟨3, rfl, by decide, by rw [someQ, hg]; rfl, rfl⟩, by decide⟩
    · repeat' ((conv => whnf); first
        | refine CallE.mk _ _ (ki) ?_
        | refine CallE.mk _ _ (kt) ?_
        | refine CallE.mk _ _ (ks) ?_
        | refine RegE.early (Cd.mk (show regOk _ _ _ _ = true by kernel_rfl) ?_)
        | refine Cd.mk rfl ?_
        | refine Br.t ?_
        | refine Br.f ?_
        | (refine TkE.fL ?_; (conv => whnf); fail_if_success (show forceL _ _))
        | refine LoopEnd.go _ _ ⟨.inl rfl, rfl, rfl, by first | rfl | (repeat first | exact all_nil _ | refine all_la _ _ _ _ _ ?_)⟩ ?_
        | ((with_reducible refine EqE.idW ?_); first | with_reducible refine EqE.mk _ (n_succ _ (by omega)) ?_ | refine EqE.mk _ (wrap_in (by omega) (by omega)) ?_)
        | refine Cd.mk (by first | omega | (simp only [length_limbs, length_la]; omega)) ?_)
      exact ⟨_, ⟨3, rfl, by decide, by rw [someQ, hg]; rfl, rfl⟩, by decide⟩
  · have kh := kH 3
    have ki := kI 3
    have kt := kT 3 (by decide)
    have ks := kS 3
    cases hg : someQ c s d 3
    · repeat' ((conv => whnf); first
        | refine CallE.mk _ _ (kh) ?_
        | refine CallE.mk _ _ (ki) ?_
        | refine CallE.mk _ _ (kt) ?_
        | refine CallE.mk _ _ (ks) ?_
        | refine RegE.early (Cd.mk (show regOk _ _ _ _ = true by kernel_rfl) ?_)
        | refine Cd.mk rfl ?_
        | refine Br.t ?_
        | refine Br.f ?_
        | (refine TkE.fL ?_; (conv => whnf); fail_if_success (show forceL _ _))
        | refine LoopEnd.go _ _ ⟨.inl rfl, rfl, rfl, by first | rfl | (repeat first | exact all_nil _ | refine all_la _ _ _ _ _ ?_)⟩ ?_
        | ((with_reducible refine EqE.idW ?_); first | with_reducible refine EqE.mk _ (n_succ _ (by omega)) ?_ | refine EqE.mk _ (wrap_in (by omega) (by omega)) ?_)
        | refine Cd.mk (by first | omega | (simp only [length_limbs, length_la]; omega)) ?_)
      exact ⟨_, ⟨4, rfl, by decide, by rw [someQ, hg]; rfl, rfl⟩, by decide⟩
    · repeat' ((conv => whnf); first
        | refine CallE.mk _ _ (ki) ?_
        | refine CallE.mk _ _ (kt) ?_
        | refine CallE.mk _ _ (ks) ?_
        | refine RegE.early (Cd.mk (show regOk _ _ _ _ = true by kernel_rfl) ?_)
        | refine Cd.mk rfl ?_
        | refine Br.t ?_
        | refine Br.f ?_
        | (refine TkE.fL ?_; (conv => whnf); fail_if_success (show forceL _ _))
        | refine LoopEnd.go _ _ ⟨.inl rfl, rfl, rfl, by first | rfl | (repeat first | exact all_nil _ | refine all_la _ _ _ _ _ ?_)⟩ ?_
        | ((with_reducible refine EqE.idW ?_); first | with_reducible refine EqE.mk _ (n_succ _ (by omega)) ?_ | refine EqE.mk _ (wrap_in (by omega) (by omega)) ?_)
        | refine Cd.mk (by first | omega | (simp only [length_limbs, length_la]; omega)) ?_)
      exact ⟨_, ⟨4, rfl, by decide, by rw [someQ, hg]; rfl, rfl⟩, by decide⟩
  · rw [t4]
    cases ht : decide (inB c R d)
    · rw [ht] at sW
      repeat' ((conv => whnf); first
        | refine CallE.mk _ _ (sW) ?_
        | refine CallE.mk _ _ (s3) ?_
        | refine CallE.mk _ _ (s4) ?_
        | refine CallE.mk _ _ (s5) ?_
        | refine RegE.early (Cd.mk (show regOk _ _ _ _ = true by kernel_rfl) ?_)
        | refine Cd.mk rfl ?_
        | refine Br.t ?_
        | refine Br.f ?_
        | (refine TkE.fL ?_; (conv => whnf); fail_if_success (show forceL _ _))
        | refine Res.mk ?_)
      rfl
    · rw [ht] at sW
      have s6 := hH (of_decide_eq_true ht)
      repeat' ((conv => whnf); first
        | refine CallE.mk _ _ (sW) ?_
        | refine CallE.mk _ _ (s1) ?_
        | refine CallE.mk _ _ (s2) ?_
        | refine CallE.mk _ _ (s3) ?_
        | refine CallE.mk _ _ (s4) ?_
        | refine CallE.mk _ _ (s5) ?_
        | refine CallE.mk _ _ (s6) ?_
        | refine RegE.early (Cd.mk (show regOk _ _ _ _ = true by kernel_rfl) ?_)
        | refine Cd.mk rfl ?_
        | refine Br.t ?_
        | refine Br.f ?_
        | (refine TkE.fL ?_; (conv => whnf); fail_if_success (show forceL _ _))
        | refine Res.mk ?_)
      rfl
end Go.Ev.Ar

namespace Go.Ev.Ar
open Go Go.Ev Go.Proofs

def rqW (z : Rq) : List A := dyC z.1.1 ++ dyC z.1.2 ++ dyC z.2.1 ++ dyC z.2.2
theorem dsg_or (p : Dyadic) : dsg p = -1 ∨ dsg p = 0 ∨ dsg p = 1 := by rcases dsg_cases p with h | h | h <;> rw [h.2] <;> decide
theorem few16_mk {b : Bool} {l : List UInt32} {e : Int} (h : fewD 10 1000 l e = true) : Sim Tryz.prog G0 false 27 [.agg [.bool b, sl l], .int .i64 e] (dyD (dof (zv b l) e)) := by
  obtain ⟨h1, h2, h3⟩ := fewD_iff.1 h
  have s := rmake_sim e (.mk b l (by omega)) (Zt.of_len (b := b) (l := l) (h := 100000) (show l.length ≤ 3125 by omega) (by decide))
  rwa [show min (max e (-20000)) 20000 = e by omega] at s
set_option maxRecDepth 10000 in
set_option maxHeartbeats 8000000 in
theorem boxtells_sim (r : RC) (b : Bool) (l : List UInt32) (e : Int) (r' : RC) (b' : Bool) (l' : List UInt32) (e' : Int) (w : RC) : Sim Tryz.prog G0 true 3 [bcell r b l e, bcell r' b' l' e', .agg w.cells] (.bool true) := by
  have sb := fewbox_sim r b l e
  have sb' := fewbox_sim r' b' l' e'
  have sc := fewcplx16_sim w
  have fr := few_cx (r := r)
  have fr' := few_cx (r := r')
  have fw := few_cx (r := w)
  have fh := few16_dd (b := b) (l := l) (e := e)
  have fm := few16_mk (b := b) (l := l) (e := e)
  have fh' := few16_dd (b := b') (l := l') (e := e')
  obtain ⟨b1, l1, e1, c1, k1, f1⟩ := r
  obtain ⟨b2, l2, e2, c2, k2, f2⟩ := r'
  obtain ⟨b3, l3, e3, c3, k3, f3⟩ := w
  cases h1 : (RC.few 10 1000 ⟨b1, l1, e1, c1, k1, f1⟩ && fewD 10 1000 l e)
  · rw [h1] at sb
    refine sim_mk tab_ok Tryz.func3 rfl (by kernel_rfl) rfl ⟨Nat.le_of_ble_eq_true rfl, Nat.le_of_ble_eq_true rfl⟩ ?_
    repeat' ((conv => whnf); first
      | with_reducible refine CallX.data ?_
      | refine CallE.mk _ _ (known16_sim) ?_
      | refine CallE.mk _ _ (sb) ?_
      | refine RegE.early (Cd.mk (show regOk _ _ _ _ = true by kernel_rfl) ?_)
      | refine Cd.mk rfl ?_
      | refine Br.t ?_
      | refine Br.f ?_
      | (refine TkE.fL ?_; (conv => whnf); fail_if_success (show forceL _ _))
      | refine Res.mk ?_)
    rfl
  rw [h1] at sb
  cases h2 : (RC.few 10 1000 ⟨b2, l2, e2, c2, k2, f2⟩ && fewD 10 1000 l' e')
  · rw [h2] at sb'
    refine sim_mk tab_ok Tryz.func3 rfl (by kernel_rfl) rfl ⟨Nat.le_of_ble_eq_true rfl, Nat.le_of_ble_eq_true rfl⟩ ?_
    repeat' ((conv => whnf); first
      | with_reducible refine CallX.data ?_
      | refine CallE.mk _ _ (known16_sim) ?_
      | refine CallE.mk _ _ (sb) ?_
      | refine CallE.mk _ _ (sb') ?_
      | refine RegE.early (Cd.mk (show regOk _ _ _ _ = true by kernel_rfl) ?_)
      | refine Cd.mk rfl ?_
      | refine Br.t ?_
      | refine Br.f ?_
      | (refine TkE.fL ?_; (conv => whnf); fail_if_success (show forceL _ _))
      | refine Res.mk ?_)
    rfl
  rw [h2] at sb'
  cases h3 : RC.few 10 1000 ⟨b3, l3, e3, c3, k3, f3⟩
  · rw [h3] at sc
    refine sim_mk tab_ok Tryz.func3 rfl (by kernel_rfl) rfl ⟨Nat.le_of_ble_eq_true rfl, Nat.le_of_ble_eq_true rfl⟩ ?_
    repeat' ((conv => whnf); first
      | with_reducible refine CallX.data ?_
      | refine CallE.mk _ _ (known16_sim) ?_
      | refine CallE.mk _ _ (sb) ?_
      | refine CallE.mk _ _ (sb') ?_
      | refine CallE.mk _ _ (sc) ?_
      | refine RegE.early (Cd.mk (show regOk _ _ _ _ = true by kernel_rfl) ?_)
      | refine Cd.mk rfl ?_
      | refine Br.t ?_
      | refine Br.f ?_
      | (refine TkE.fL ?_; (conv => whnf); fail_if_success (show forceL _ _))
      | refine Res.mk ?_)
    rfl
  rw [h3] at sc
  rw [Bool.and_eq_true] at h1 h2
  obtain ⟨xr, xf, xh⟩ := fr h1.1
  obtain ⟨hr, hf1, hh⟩ := fh h1.2
  have sM := fm h1.2
  obtain ⟨yr, yf, yh⟩ := fr' h2.1
  obtain ⟨kr, kf1, kh⟩ := fh' h2.2
  obtain ⟨wr, wf, wh⟩ := fw h3
  clear h1 h2 h3 fr fr' fw fh fh' fm
  generalize RC.val ⟨b1, l1, e1, c1, k1, f1⟩ = c at xr xf xh
  generalize RC.val ⟨b2, l2, e2, c2, k2, f2⟩ = d at yr yf yh
  generalize RC.val ⟨b3, l3, e3, c3, k3, f3⟩ = v at wr wf wh
  generalize dof (zv b l) e = h at hr hf1 hh sM
  generalize dof (zv b' l') e' = k at kr kf1 kh
  have bx := BxR.mk xr hr
  have bxf := BxF.mk xf hf1
  have by' := BxR.mk yr kr
  have byf := BxF.mk yf kf1
  obtain ⟨R, hR⟩ : ∃ R, hf h = R := ⟨_, rfl⟩
  have hRt : Ht 1320 R := hR ▸ ht_hf hh (by decide)
  have hRp : 0 < R := hR ▸ hf_pos h
  obtain ⟨S, hS⟩ : ∃ S, hf k = S := ⟨_, rfl⟩
  have hSt : Ht 1320 S := hS ▸ ht_hf kh (by decide)
  have A := rBox_is bxf (hh.mono (by decide)) hR
  have B := rBox_is byf (kh.mono (by decide)) hS
  have a1 := rSquare_is (xh.mono (show 1320 ≤ 40000 by decide)) (hRt.mono (by decide))
  have a2 := rSquare_is (yh.mono (show 1320 ≤ 40000 by decide)) (hSt.mono (by decide))
  have a3 := rdscale_sim (-1) (hRt.mono (show 1320 ≤ 50000 by decide))
  rw [show min (max (-1) (-20000)) 20000 = -1 by decide] at a3
  have sQ := quarters_is bx (xh.mono (by decide)) (hh.mono (by decide)) hR rfl
  have hst : Ht 1500 (R * dof 1 (-1)) := hRt.mul (Ht.cst (m := 1) (e := -1) (by decide)) (by decide)
  have hgt : Ht 1700 (R * dof 3 0 * dof 1 (-1)) := (hRt.mul (Ht.cst (m := 3) (e := 0) (by decide)) (c := 1500) (by decide)).mul (Ht.cst (m := 1) (e := -1) (by decide)) (by decide)
  have hDt : Ht 1500 (R * dof 1 1) := hRt.mul (Ht.cst (m := 1) (e := 1) (by decide)) (by decide)
  have d1 := rdmul_sim (p := dof 3 0) (q := R * dof 1 (-1)) ((ht_one 3 (by decide)).mono (by decide)) (hst.mono (by decide))
  rw [show dof 3 0 * (R * dof 1 (-1)) = R * dof 3 0 * dof 1 (-1) by grind] at d1
  have d2 := bDisc_is bx (hh.mono (by decide)) hR rfl
  have d3 := rofd_sim 3 (by decide) (by decide)
  have d4 := eqdisc_is (t := true) (xh.mono (show 1320 ≤ 50000 by decide)) (xh.mono (show 1320 ≤ 50000 by decide)) (hgt.mono (show 1700 ≤ 50000 by decide)) (hgt.mono (show 1700 ≤ 50000 by decide)) (decide_eq_true ⟨rfl, rfl⟩)
  have e1' := bDouble_is bx (hh.mono (by decide)) hR rfl
  have e2' := rdscale_sim 1 (hRt.mono (show 1320 ≤ 50000 by decide))
  rw [show min (max 1 (-20000)) 20000 = 1 by decide] at e2'
  have e3' := eqbox_is (t := true) (xh.mono (show 1320 ≤ 50000 by decide)) (xh.mono (show 1320 ≤ 50000 by decide)) (hDt.mono (show 1500 ≤ 50000 by decide)) (hDt.mono (show 1500 ≤ 50000 by decide)) (decide_eq_true ⟨rfl, rfl⟩)
  obtain ⟨T1, hT1⟩ : ∃ t, decide (inB c R v) = t := ⟨_, rfl⟩
  obtain ⟨T2, hT2⟩ : ∃ t, decide (bTo c R d S) = t := ⟨_, rfl⟩
  obtain ⟨T3, hT3⟩ : ∃ t, decide (bIn c R d S) = t := ⟨_, rfl⟩
  obtain ⟨T4, hT4⟩ : ∃ t, decide (c = d ∧ R = S) = t := ⟨_, rfl⟩
  have hsx : Hr 1321 (sqR c R) := hr_sq xh hRt (by decide)
  have hsy : Hr 1321 (sqR d S) := hr_sq yh hSt (by decide)
  have f1' := bHas_is bx wr (xh.mono (by decide)) (hh.mono (by decide)) (wh.mono (by decide)) hR hT1
  have f2' := rHas8_is (hsx.mono (by decide)) (wh.mono (by decide)) hT1
  have f3' := rcplx_sim wf
  have f4' : Sim Tryz.prog G0 false 32 _ (rqD (sqR c R)) := bRect_is bx (hh.mono (by decide)) hR rfl rfl
  have f5' : Sim Tryz.prog G0 true 31 [rqD (sqR c R), rqD (sqR c R)] (.bool true) := rEqRect_is (hsx.mono (by decide)) (hsx.mono (by decide)) (decide_eq_true rfl)
  have g1 := bTouch_is bx by' (xh.mono (by decide)) (hh.mono (by decide)) (yh.mono (by decide)) (kh.mono (by decide)) hR hS hT2
  have g2 := rTouch_is (hsx.mono (by decide)) (hsy.mono (by decide)) hT2
  have g3 := bIn_is bx by' (xh.mono (by decide)) (hh.mono (by decide)) (yh.mono (by decide)) (kh.mono (by decide)) hR hS hT3
  have g4 := rRectIn_is (hsx.mono (by decide)) (hsy.mono (by decide)) hT3
  have g5 := bSame_is bx by' (xh.mono (by decide)) (hh.mono (by decide)) (yh.mono (by decide)) (kh.mono (by decide)) hR hS hT4
  have g6 := eqbox_is (xh.mono (by decide)) (yh.mono (by decide)) (hRt.mono (by decide)) (hSt.mono (by decide)) hT4
  have i1 := bIs_is bx (t := decide (dsg h > 0)) (decide_eq_decide.2 dsg_gt.symm)
  have i2 := rdsign_sim (hh.mono (show 1320 ≤ 50000 by decide))
  clear hT1 hT2 hT3 hT4
  generalize R * dof 3 0 * dof 1 (-1) = G at *
  generalize R * dof 1 1 = G2 at *
  obtain ⟨s, hs⟩ : ∃ s, R * dof 1 (-1) = s := ⟨_, rfl⟩
  rw [hs] at sQ hst a3 d1
  clear hs
  have ng := rdneg_sim (hst.mono (show 1500 ≤ 50000 by decide))
  have hqz : ∀ k, Hc 1501 (qk c s k) := fun k => ht_qk (xh.mono (show 1320 ≤ 1500 by decide)) hst (by omega) k (by omega)
  have hqw : ∀ k, Hc 1500 (qw s k) := fun k => by
    unfold qw; split
    · exact ⟨hst.neg, hst.neg⟩
    · exact ⟨hst, hst.neg⟩
    · exact ⟨hst.neg, hst⟩
    · exact ⟨hst, hst⟩
  have kA : ∀ k, Sim Tryz.prog G0 false 22 [cxD c, cxD (qw s k)] (cxD (qk c s k)) := fun k => rcadd16 (xh.mono (by decide)) ((hqw k).mono (by decide)) rfl
  have kE : ∀ k, Sim Tryz.prog G0 true 21 [bxD (qk c s k) s, bxD (qk c s k) s] (.bool true) := fun k => eqbox_is ((hqz k).mono (by decide)) ((hqz k).mono (by decide)) (hst.mono (by decide)) (hst.mono (by decide)) (decide_eq_true ⟨rfl, rfl⟩)
  generalize hX : sqR c R = X at *
  generalize hY : sqR d S = Y at *
  clear hX hY
  obtain ⟨V, hV⟩ : ∃ V, dsg h = V := ⟨_, rfl⟩
  have hV' := dsg_or h
  rw [hV] at i1 i2 hV'
  clear hV
  obtain ⟨_, _⟩ := c
  obtain ⟨_, _⟩ := d
  obtain ⟨_, _⟩ := v
  obtain ⟨⟨_, _⟩, ⟨_, _⟩⟩ := X
  obtain ⟨⟨_, _⟩, ⟨_, _⟩⟩ := Y
  refine sim_mk tab_ok Tryz.func3 rfl (by kernel_rfl) rfl ⟨Nat.le_of_ble_eq_true rfl, Nat.le_of_ble_eq_true rfl⟩ ?_
  repeat' ((conv => whnf); first
    | with_reducible refine CallX.data ?_
    | refine RegE.lateS (ps := [(6, 3)]) rfl (by kernel_rfl) ?_ rfl
    | refine RegE.lateS (ps := [(12, 5), (12, 6), (12, 7), (12, 8), (12, 9)]) rfl (by kernel_rfl) ?_ rfl
    | refine CallE.mk _ _ (known16_sim) ?_
    | refine CallE.mk _ _ (sb) ?_
    | refine CallE.mk _ _ (sb') ?_
    | refine CallE.mk _ _ (sc) ?_
    | refine CallE.mk _ _ (sQ) ?_
    | refine CallE.mk _ _ (A) ?_
    | refine CallE.mk _ _ (B) ?_
    | refine CallE.mk _ _ (a1) ?_
    | refine CallE.mk _ _ (a2) ?_
    | refine CallE.mk _ _ (a3) ?_
    | refine RegE.early (Cd.mk (show regOk _ _ _ _ = true by kernel_rfl) ?_)
    | refine Cd.mk rfl ?_
    | refine Br.f ?_
    | (refine TkE.fL ?_; (conv => whnf); fail_if_success (show forceL _ _))
    | refine LateE.mk (by repeat first | exact True.intro | refine And.intro (by kernel_rfl) ?_) ?_
    | ((with_reducible refine EqE.idS ?_); (refine EqE.fP ?_; (conv => whnf); fail_if_success (show forceL _ _)))
    | refine Cd.mk (Nat.le_of_ble_eq_true rfl) ?_)
  rename_i c1v c2v d1v d2v v1v v2v x1 x2 x3 x4 y1 y2 y3 y4
  refine ⟨[], [3, 4, 5, 7, 8, 9, 10, 11, 12, 13], [3, 4, 5, 7, 8, 9, 10, 11, 12], fun m xs h => ∃ (i : Nat), m = 4 - i ∧ i ≤ 4 ∧
      xs = [.ptr 3 0, .ptr 4 0, .ptr 5 0, .ptr 7 0, .ptr 8 0, .ptr 9 0, .ptr 10 0, .ptr 11 0, .ptr 12 0, .d (.int .i64 (i : Nat))] ∧ h = [(12, false, QCb (c1v, c2v) s 4), (11, false, dyC s), (10, false, rqW ((y1, y2), (y3, y4))), (9, false, rqW ((x1, x2), (x3, x4))), (8, false, bxW (d1v, d2v) S), (7, false, bxW (c1v, c2v) R), (5, false, [.d (.bool b3), .d (sl l3), .d (.int .i64 e3), .d (.bool c3), .d (sl k3), .d (.int .i64 f3)]), (4, false, [.d (.bool b2), .d (sl l2), .d (.int .i64 e2), .d (.bool c2), .d (sl k2), .d (.int .i64 f2), .d (.bool b'), .d (sl l'), .d (.int .i64 e')]), (3, false, [.d (.bool b1), .d (sl l1), .d (.int .i64 e1), .d (.bool c1), .d (sl k1), .d (.int .i64 f1), .d (.bool b), .d (sl l), .d (.int .i64 e)])],
    ⟨_, _, _, ⟨.inl rfl, rfl, rfl, by first | rfl | (repeat first | exact all_nil _ | refine all_la _ _ _ _ _ ?_)⟩, 0, rfl, by decide, rfl, rfl⟩, ?_⟩
  rintro m xs hp ⟨i, rfl, hi, rfl, rfl⟩
  have i4 : i = 0 ∨ i = 1 ∨ i = 2 ∨ i = 3 ∨ i = 4 := by omega
  rcases i4 with rfl | rfl | rfl | rfl | rfl
  · have ka := kA 0
    have ke := kE 0
    repeat' ((conv => whnf); first
      | refine RegE.lateS (ps := [(6, 3)]) rfl (by kernel_rfl) ?_ rfl
      | refine CallE.mk _ _ (ng) ?_
      | refine CallE.mk _ _ (ka) ?_
      | refine CallE.mk _ _ (ke) ?_
      | refine RegE.early (Cd.mk (show regOk _ _ _ _ = true by kernel_rfl) ?_)
      | refine Cd.mk rfl ?_
      | refine Br.t ?_
      | refine Br.f ?_
      | (refine TkE.fL ?_; (conv => whnf); fail_if_success (show forceL _ _))
      | refine LateE.mk (by repeat first | exact True.intro | refine And.intro (by kernel_rfl) ?_) ?_
      | refine LoopEnd.go _ _ ⟨.inl rfl, rfl, rfl, by first | rfl | (repeat first | exact all_nil _ | refine all_la _ _ _ _ _ ?_)⟩ ?_
      | ((with_reducible refine EqE.idW ?_); first | with_reducible refine EqE.mk _ (n_succ _ (by omega)) ?_ | refine EqE.mk _ rfl ?_)
      | ((with_reducible refine EqE.idM ?_); refine EqE.mk _ rfl ?_)
      | ((with_reducible refine EqE.idS ?_); (refine EqE.fP ?_; (conv => whnf); fail_if_success (show forceL _ _)))
      | refine Cd.mk (Nat.le_of_ble_eq_true rfl) ?_
      | refine Cd.mk (by first | omega | (simp only [length_limbs, length_la]; omega)) ?_)
    exact ⟨_, ⟨1, rfl, by decide, rfl, rfl⟩, by decide⟩
  · have ka := kA 1
    have ke := kE 1
    repeat' ((conv => whnf); first
      | refine RegE.lateS (ps := [(6, 3)]) rfl (by kernel_rfl) ?_ rfl
      | refine CallE.mk _ _ (ng) ?_
      | refine CallE.mk _ _ (ka) ?_
      | refine CallE.mk _ _ (ke) ?_
      | refine RegE.early (Cd.mk (show regOk _ _ _ _ = true by kernel_rfl) ?_)
      | refine Cd.mk rfl ?_
      | refine Br.t ?_
      | refine Br.f ?_
      | (refine TkE.fL ?_; (conv => whnf); fail_if_success (show forceL _ _))
      | refine LateE.mk (by repeat first | exact True.intro | refine And.intro (by kernel_rfl) ?_) ?_
      | refine LoopEnd.go _ _ ⟨.inl rfl, rfl, rfl, by first | rfl | (repeat first | exact all_nil _ | refine all_la _ _ _ _ _ ?_)⟩ ?_
      | ((with_reducible refine EqE.idW ?_); first | with_reducible refine EqE.mk _ (n_succ _ (by omega)) ?_ | refine EqE.mk _ rfl ?_)
      | ((with_reducible refine EqE.idM ?_); refine EqE.mk _ rfl ?_)
      | ((with_reducible refine EqE.idS ?_); (refine EqE.fP ?_; (conv => whnf); fail_if_success (show forceL _ _)))
      | refine Cd.mk (Nat.le_of_ble_eq_true rfl) ?_
      | refine Cd.mk (by first | omega | (simp only [length_limbs, length_la]; omega)) ?_)
    exact ⟨_, ⟨2, rfl, by decide, rfl, rfl⟩, by decide⟩
  · have ka := kA 2
    have ke := kE 2
    repeat' ((conv => whnf); first
      | refine RegE.lateS (ps := [(6, 3)]) rfl (by kernel_rfl) ?_ rfl
      | refine CallE.mk _ _ (ng) ?_
      | refine CallE.mk _ _ (ka) ?_
      | refine CallE.mk _ _ (ke) ?_
      | refine RegE.early (Cd.mk (show regOk _ _ _ _ = true by kernel_rfl) ?_)
      | refine Cd.mk rfl ?_
      | refine Br.t ?_
      | refine Br.f ?_
      | (refine TkE.fL ?_; (conv => whnf); fail_if_success (show forceL _ _))
      | refine LateE.mk (by repeat first | exact True.intro | refine And.intro (by kernel_rfl) ?_) ?_
      | refine LoopEnd.go _ _ ⟨.inl rfl, rfl, rfl, by first | rfl | (repeat first | exact all_nil _ | refine all_la _ _ _ _ _ ?_)⟩ ?_
      | ((with_reducible refine EqE.idW ?_); first | with_reducible refine EqE.mk _ (n_succ _ (by omega)) ?_ | refine EqE.mk _ rfl ?_)
      | ((with_reducible refine EqE.idM ?_); refine EqE.mk _ rfl ?_)
      | ((with_reducible refine EqE.idS ?_); (refine EqE.fP ?_; (conv => whnf); fail_if_success (show forceL _ _)))
      | refine Cd.mk (Nat.le_of_ble_eq_true rfl) ?_
      | refine Cd.mk (by first | omega | (simp only [length_limbs, length_la]; omega)) ?_)
    exact ⟨_, ⟨3, rfl, by decide, rfl, rfl⟩, by decide⟩
  · have ka := kA 3
    have ke := kE 3
    repeat' ((conv => whnf); first
      | refine RegE.lateS (ps := [(6, 3)]) rfl (by kernel_rfl) ?_ rfl
      | refine CallE.mk _ _ (ng) ?_
      | refine CallE.mk _ _ (ka) ?_
      | refine CallE.mk _ _ (ke) ?_
      | refine RegE.early (Cd.mk (show regOk _ _ _ _ = true by kernel_rfl) ?_)
      | refine Cd.mk rfl ?_
      | refine Br.t ?_
      | refine Br.f ?_
      | (refine TkE.fL ?_; (conv => whnf); fail_if_success (show forceL _ _))
      | refine LateE.mk (by repeat first | exact True.intro | refine And.intro (by kernel_rfl) ?_) ?_
      | refine LoopEnd.go _ _ ⟨.inl rfl, rfl, rfl, by first | rfl | (repeat first | exact all_nil _ | refine all_la _ _ _ _ _ ?_)⟩ ?_
      | ((with_reducible refine EqE.idW ?_); first | with_reducible refine EqE.mk _ (n_succ _ (by omega)) ?_ | refine EqE.mk _ rfl ?_)
      | ((with_reducible refine EqE.idM ?_); refine EqE.mk _ rfl ?_)
      | ((with_reducible refine EqE.idS ?_); (refine EqE.fP ?_; (conv => whnf); fail_if_success (show forceL _ _)))
      | refine Cd.mk (Nat.le_of_ble_eq_true rfl) ?_
      | refine Cd.mk (by first | omega | (simp only [length_limbs, length_la]; omega)) ?_)
    exact ⟨_, ⟨4, rfl, by decide, rfl, rfl⟩, by decide⟩
  · rcases hV' with rfl | rfl | rfl
    · repeat' ((conv => whnf); first
        | refine CallE.mk _ _ (d3) ?_
        | refine CallE.mk _ _ (d1) ?_
        | refine CallE.mk _ _ (i1) ?_
        | refine CallE.mk _ _ (sM) ?_
        | refine CallE.mk _ _ (i2) ?_
        | refine CallE.mk _ _ (f1') ?_
        | refine CallE.mk _ _ (f3') ?_
        | refine CallE.mk _ _ (f2') ?_
        | refine CallE.mk _ _ (f4') ?_
        | refine CallE.mk _ _ (f5') ?_
        | refine CallE.mk _ _ (d2) ?_
        | refine CallE.mk _ _ (d4) ?_
        | refine CallE.mk _ _ (g1) ?_
        | refine CallE.mk _ _ (g2) ?_
        | refine CallE.mk _ _ (g3) ?_
        | refine CallE.mk _ _ (g4) ?_
        | refine CallE.mk _ _ (e1') ?_
        | refine CallE.mk _ _ (e2') ?_
        | refine CallE.mk _ _ (e3') ?_
        | refine CallE.mk _ _ (g5) ?_
        | refine CallE.mk _ _ (g6) ?_
        | refine RegE.early (Cd.mk (show regOk _ _ _ _ = true by kernel_rfl) ?_)
        | refine Cd.mk rfl ?_
        | refine Br.t ?_
        | refine Br.f ?_
        | with_reducible refine Br.eqb ?_
        | refine NthE.mk _ rfl ?_
        | (refine TkE.fL ?_; (conv => whnf); fail_if_success (show forceL _ _))
        | refine Res.mk ?_
        | ((with_reducible refine EqE.idS ?_); (refine EqE.fP ?_; (conv => whnf); fail_if_success (show forceL _ _)))
        | refine Cd.mk (Nat.le_of_ble_eq_true rfl) ?_)
      rw [beq_self_eq_true]; rfl
    · repeat' ((conv => whnf); first
        | refine CallE.mk _ _ (d3) ?_
        | refine CallE.mk _ _ (d1) ?_
        | refine CallE.mk _ _ (i1) ?_
        | refine CallE.mk _ _ (sM) ?_
        | refine CallE.mk _ _ (i2) ?_
        | refine CallE.mk _ _ (f1') ?_
        | refine CallE.mk _ _ (f3') ?_
        | refine CallE.mk _ _ (f2') ?_
        | refine CallE.mk _ _ (f4') ?_
        | refine CallE.mk _ _ (f5') ?_
        | refine CallE.mk _ _ (d2) ?_
        | refine CallE.mk _ _ (d4) ?_
        | refine CallE.mk _ _ (g1) ?_
        | refine CallE.mk _ _ (g2) ?_
        | refine CallE.mk _ _ (g3) ?_
        | refine CallE.mk _ _ (g4) ?_
        | refine CallE.mk _ _ (e1') ?_
        | refine CallE.mk _ _ (e2') ?_
        | refine CallE.mk _ _ (e3') ?_
        | refine CallE.mk _ _ (g5) ?_
        | refine CallE.mk _ _ (g6) ?_
        | refine RegE.early (Cd.mk (show regOk _ _ _ _ = true by kernel_rfl) ?_)
        | refine Cd.mk rfl ?_
        | refine Br.t ?_
        | refine Br.f ?_
        | with_reducible refine Br.eqb ?_
        | refine NthE.mk _ rfl ?_
        | (refine TkE.fL ?_; (conv => whnf); fail_if_success (show forceL _ _))
        | refine Res.mk ?_
        | ((with_reducible refine EqE.idS ?_); (refine EqE.fP ?_; (conv => whnf); fail_if_success (show forceL _ _)))
        | refine Cd.mk (Nat.le_of_ble_eq_true rfl) ?_)
      rw [beq_self_eq_true]; rfl
    · repeat' ((conv => whnf); first
        | refine CallE.mk _ _ (d3) ?_
        | refine CallE.mk _ _ (d1) ?_
        | refine CallE.mk _ _ (i1) ?_
        | refine CallE.mk _ _ (sM) ?_
        | refine CallE.mk _ _ (i2) ?_
        | refine CallE.mk _ _ (f1') ?_
        | refine CallE.mk _ _ (f3') ?_
        | refine CallE.mk _ _ (f2') ?_
        | refine CallE.mk _ _ (f4') ?_
        | refine CallE.mk _ _ (f5') ?_
        | refine CallE.mk _ _ (d2) ?_
        | refine CallE.mk _ _ (d4) ?_
        | refine CallE.mk _ _ (g1) ?_
        | refine CallE.mk _ _ (g2) ?_
        | refine CallE.mk _ _ (g3) ?_
        | refine CallE.mk _ _ (g4) ?_
        | refine CallE.mk _ _ (e1') ?_
        | refine CallE.mk _ _ (e2') ?_
        | refine CallE.mk _ _ (e3') ?_
        | refine CallE.mk _ _ (g5) ?_
        | refine CallE.mk _ _ (g6) ?_
        | refine RegE.early (Cd.mk (show regOk _ _ _ _ = true by kernel_rfl) ?_)
        | refine Cd.mk rfl ?_
        | refine Br.t ?_
        | refine Br.f ?_
        | with_reducible refine Br.eqb ?_
        | refine NthE.mk _ rfl ?_
        | (refine TkE.fL ?_; (conv => whnf); fail_if_success (show forceL _ _))
        | refine Res.mk ?_
        | ((with_reducible refine EqE.idS ?_); (refine EqE.fP ?_; (conv => whnf); fail_if_success (show forceL _ _)))
        | refine Cd.mk (Nat.le_of_ble_eq_true rfl) ?_)
      rw [beq_self_eq_true]; rfl
end Go.Ev.Ar
