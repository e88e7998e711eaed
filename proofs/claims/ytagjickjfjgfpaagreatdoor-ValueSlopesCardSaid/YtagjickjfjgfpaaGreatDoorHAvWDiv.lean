/- Contracts of the given functions, on data. Conditions stand in each theorem. -/
import Derived.Test.YtagjickjfjgfpaaGreatDoorHEvR
import Derived.Test.YtagjickjfjgfpaaGreatDoorHAvNatD
import Derived.Test.YtagjickjfjgfpaaGreatDoorHEvSt
import Derived.Test.YtagjickjfjgfpaaGreatDoorHAvDyL
import Derived.Test.YtagjickjfjgfpaaGreatDoorHAvRefA
set_option linter.unusedSimpArgs false
set_option linter.unusedVariables false
namespace Go.Ev.Ar
open Go Go.Ev Go.Proofs
theorem acb {x : D} {n s : Int} (hx : ZR x n) (h : Int.sign n = s) : Sim Tryz.prog G0 true 207 [x] (.int .i64 s) := h ▸ ux hx
theorem awb {m n : Int} (hn : 0 < n) :
  (0 ≤ zv (a7 m) (ofN (m.natAbs % n.natAbs)) → zv (a7 m) (ofN (m.natAbs / n.natAbs)) = m / n ∧ zv (a7 m) (ofN (m.natAbs % n.natAbs)) = m % n) ∧
  (zv (a7 m) (ofN (m.natAbs % n.natAbs)) < 0 → zv (a7 m) (ofN (m.natAbs / n.natAbs)) - 1 = m / n ∧ zv (a7 m) (ofN (m.natAbs % n.natAbs)) + n = m % n) := by
 obtain ⟨k, rfl⟩ := Int.eq_ofNat_of_zero_le (Int.le_of_lt hn)
 have hk : 0 < k := by omega
 have hd := Nat.div_add_mod m.natAbs k
 have hl := Nat.mod_lt m.natAbs hk
 have e : (k : Int).natAbs = k := rfl
 rw [e]
 unfold zv
 rw [aw, aw]
 generalize m.natAbs / k = q at *
 generalize m.natAbs % k = r at *
 have hq : ((k * q + r : Nat) : Int) = (m.natAbs : Int) := by rw [hd]
 rw [Int.natCast_add, Int.natCast_mul] at hq
 have key : ∀ u v : Int, (k : Int) * u + v = m → 0 ≤ v → v < k → u = m / k ∧ v = m % k := fun u v h1 h2 h3 => by
  obtain ⟨a, b⟩ := (Int.ediv_emod_unique (a := m) (b := k) (r := v) (q := u) (by omega)).2 ⟨by omega, h2, h3⟩
  exact ⟨a.symm, b.symm⟩
 by_cases hm : m < 0
 ·have hz : a7 m = true := by simp [a7, hm]
  rw [hz]
  simp only [if_true]
  constructor
  ·intro h0
   refine key _ _ ?_ h0 (by omega)
   rw [Int.mul_neg]; omega
  ·intro h0
   refine key _ _ ?_ (by omega) (by omega)
   rw [Int.mul_sub, Int.mul_neg]; omega
 ·have hz : a7 m = false := by simp [a7, hm]
  rw [hz]
  simp only [Bool.false_eq_true, if_false]
  constructor
  ·intro h0
   refine key _ _ (by omega) h0 (by omega)
  ·intro h0
   omega
theorem azn {x y : D} {m n : Int} (hx : ZR x m) (hy : ZR y n) (hn : 0 < n) (hm : Zt 134000000 m) (hb : Zt 134000000 n) : Sim Tryz.prog G0 false 226 [x, y] (.tup [zD (m / n), zD (m % n), .bool true]) := by
 have l1 := hm.len (k := 4187500) (by decide)
 have l2 := hb.len (k := 4187500) (by decide)
 have hd := axp (ofN m.natAbs) (ofN n.natAbs) (by omega) (by omega) (by rw [aw]; omega)
 rw [aw, aw] at hd
 have hz : a7 n = false := by unfold a7; rw [decide_eq_false (by omega)]
 have k1 : (ofN (m.natAbs / n.natAbs)).length < 2^32 := by
  have := b5.2 (Nat.lt_of_le_of_lt (Nat.div_le_self m.natAbs n.natAbs) (b5.1 l1)); omega
 have k2 : (ofN (m.natAbs % n.natAbs)).length < 2^32 := by
  have := b5.2 (Nat.lt_of_le_of_lt (Nat.mod_le m.natAbs n.natAbs) (b5.1 l1)); omega
 have e : (!(a7 m == a7 n)) = a7 m := by rw [hz]; cases a7 m <;> rfl
 have w1 := ajk (b := !(a7 m == a7 n)) (n := zv (a7 m) (ofN (m.natAbs / n.natAbs))) k1 (by rw [e])
 have w2 := m6 (a7 m) _ k2
 obtain ⟨d1, d2⟩ := awb (m := m) hn
 have hq0 : Zt 134000000 (zv (a7 m) (ofN (m.natAbs / n.natAbs))) := hm.le (by rw [nw, aw]; exact Nat.div_le_self _ _)
 have hr0 : Zt 134000000 (zv (a7 m) (ofN (m.natAbs % n.natAbs))) := hm.le (by rw [nw, aw]; exact Nat.mod_le _ _)
 generalize zv (a7 m) (ofN (m.natAbs / n.natAbs)) = q0 at *
 generalize zv (a7 m) (ofN (m.natAbs % n.natAbs)) = r0 at *
 obtain ⟨b, l, hl⟩ := hx
 obtain ⟨c, k, hk⟩ := hy
 refine ao af Tryz.func226 ?_
 have n1 := l7 (.mk b l hl)
 have n2 := l7 (.mk c k hk)
 have hy' : ZR (.agg [.bool (a7 (zv c k)), sl (ofN (zv c k).natAbs)]) (zv c k) := .of (hb.mono (by decide))
 have o1 : ZR (zD 1) 1 := .of (Zt.small (by decide) (by decide))
 have sn := acb hy' (Int.sign_eq_one_of_pos hn)
 rcases Int.lt_trichotomy r0 0 with h | h | h
 ·obtain ⟨e1, e2⟩ := d2 h
  have sr := acb (.of (n := r0) (hr0.mono (by decide))) (Int.sign_eq_neg_one_of_neg h)
  repeat' ((conv => whnf); first | with_reducible refine ag.data ?_ | refine cx.ia (ps := [(2, 1)]) rfl (by kernel_rfl) ?_ rfl | refine aa.mk _ _ (n1) ?_ | refine aa.mk _ _ (n2) ?_ | refine aa.mk _ _ (hd) ?_ | refine aa.mk _ _ (w1) ?_ | refine aa.mk _ _ (w2) ?_ | refine aa.mk _ _ (sr) ?_ | refine aa.mk _ _ (sn) ?_ | refine aa.mk _ _ (zh 1 (by decide) (by decide)) ?_ | refine aa.mk _ _ (acd (.of (n := q0) (hq0.mono (by decide))) o1) ?_ | refine aa.mk _ _ (yh (.of (n := r0) (hr0.mono (by decide))) hy') ?_ | refine rgE ?_ | refine Cd.mk rfl ?_ | refine Br.t ?_ | refine Br.f ?_ | refine ah.mk _ rfl ?_ | (refine TkE.fL ?_; (conv => whnf); fail_if_success (show ae _ _)) | refine Res.mk ?_ | refine b7.mk (by repeat first | exact True.intro | refine And.intro (by kernel_rfl) ?_) ?_ | ((with_reducible refine EqE.idW ?_); refine EqE.mk _ (aj (by omega) (by omega)) ?_) | ((with_reducible refine EqE.idS ?_); (refine EqE.fP ?_; (conv => whnf); fail_if_success (show ae _ _))) | refine Cd.ol ?_)
  rw [← e1, ← e2]; rfl
 ·obtain ⟨e1, e2⟩ := d1 (by omega)
  have sr := acb (.of (n := r0) (hr0.mono (by decide))) (Int.sign_eq_zero_iff_zero.2 h)
  repeat' ((conv => whnf); first | with_reducible refine ag.data ?_ | refine cx.ia (ps := [(2, 1)]) rfl (by kernel_rfl) ?_ rfl | refine aa.mk _ _ (n1) ?_ | refine aa.mk _ _ (n2) ?_ | refine aa.mk _ _ (hd) ?_ | refine aa.mk _ _ (w1) ?_ | refine aa.mk _ _ (w2) ?_ | refine aa.mk _ _ (sr) ?_ | refine aa.mk _ _ (sn) ?_ | refine rgE ?_ | refine Cd.mk rfl ?_ | refine Br.f ?_ | refine ah.mk _ rfl ?_ | (refine TkE.fL ?_; (conv => whnf); fail_if_success (show ae _ _)) | refine Res.mk ?_ | refine b7.mk (by repeat first | exact True.intro | refine And.intro (by kernel_rfl) ?_) ?_ | ((with_reducible refine EqE.idW ?_); refine EqE.mk _ (aj (by omega) (by omega)) ?_) | ((with_reducible refine EqE.idS ?_); (refine EqE.fP ?_; (conv => whnf); fail_if_success (show ae _ _))) | refine Cd.ol ?_)
  rw [← e1, ← e2]; rfl
 ·obtain ⟨e1, e2⟩ := d1 (by omega)
  have sr := acb (.of (n := r0) (hr0.mono (by decide))) (Int.sign_eq_one_of_pos h)
  repeat' ((conv => whnf); first | with_reducible refine ag.data ?_ | refine cx.ia (ps := [(2, 1)]) rfl (by kernel_rfl) ?_ rfl | refine aa.mk _ _ (n1) ?_ | refine aa.mk _ _ (n2) ?_ | refine aa.mk _ _ (hd) ?_ | refine aa.mk _ _ (w1) ?_ | refine aa.mk _ _ (w2) ?_ | refine aa.mk _ _ (sr) ?_ | refine aa.mk _ _ (sn) ?_ | refine rgE ?_ | refine Cd.mk rfl ?_ | refine Br.f ?_ | refine ah.mk _ rfl ?_ | (refine TkE.fL ?_; (conv => whnf); fail_if_success (show ae _ _)) | refine Res.mk ?_ | refine b7.mk (by repeat first | exact True.intro | refine And.intro (by kernel_rfl) ?_) ?_ | ((with_reducible refine EqE.idW ?_); refine EqE.mk _ (aj (by omega) (by omega)) ?_) | ((with_reducible refine EqE.idS ?_); (refine EqE.fP ?_; (conv => whnf); fail_if_success (show ae _ _))) | refine Cd.ol ?_)
  rw [← e1, ← e2]; rfl
end Go.Ev.Ar

namespace Go.Ev.Ar
open Go Go.Ev Go.Proofs
def lo2 (l d : Dyadic) : Dyadic := if d < l then d else l
def hi2 (h d : Dyadic) : Dyadic := if h < d then d else h
theorem apl (p q : Dyadic) : lo2 p q = mn p q := by unfold lo2 mn; grind
theorem ao9 (p q : Dyadic) : hi2 p q = mx p q := by unfold hi2 mx; grind
theorem axf (p q r : Dyadic) : mn (mn p q) r = mn p (mn q r) := by unfold mn; grind
theorem axg (p q r : Dyadic) : mx (mx p q) r = mx p (mx q r) := by unfold mx; grind
def LOs (p q r s : Dyadic) : Nat → Dyadic
 | 0 => p
 | 1 => lo2 p q
 | 2 => lo2 (lo2 p q) r
 | _ => lo2 (lo2 (lo2 p q) r) s
def HIs (p q r s : Dyadic) : Nat → Dyadic
 | 0 => p
 | 1 => hi2 p q
 | 2 => hi2 (hi2 p q) r
 | _ => hi2 (hi2 (hi2 p q) r) s
theorem acs {a : Nat} {p q : Dyadic} (hp : Ht a p) (hq : Ht a q) : Ht a (lo2 p q) := by unfold lo2; split <;> assumption
theorem acr {a : Nat} {p q : Dyadic} (hp : Ht a p) (hq : Ht a q) : Ht a (hi2 p q) := by unfold hi2; split <;> assumption
theorem a3a {a : Nat} {p q r s : Dyadic} (hp : Ht a p) (hq : Ht a q) (hr : Ht a r) (hs : Ht a s) : ∀ i, Ht a (LOs p q r s i)
 | 0 => hp
 | 1 => acs hp hq
 | 2 => acs (acs hp hq) hr
 | _ + 3 => acs (acs (acs hp hq) hr) hs
theorem a29 {a : Nat} {p q r s : Dyadic} (hp : Ht a p) (hq : Ht a q) (hr : Ht a r) (hs : Ht a s) : ∀ i, Ht a (HIs p q r s i)
 | 0 => hp
 | 1 => acr hp hq
 | 2 => acr (acr hp hq) hr
 | _ + 3 => acr (acr (acr hp hq) hr) hs
theorem dq {p q : Dyadic} : dsg (p - q) < 0 ↔ p < q := by rw [awi]; grind
theorem dp {p q : Dyadic} : dsg (p - q) > 0 ↔ q < p := by rw [awh]; grind
set_option maxHeartbeats 8000000 in
theorem q9 {x y : D} {z w r : Cq} (hx : CxR x z) (hy : CxR y w) (hz : Hc 200000 z) (hw : Hc 200000 w) (h : b8 z w = r) : Sim Tryz.prog G0 false 84 [x, y] (cxD r) := by
 subst h
 obtain ⟨h1, h2⟩ := hx
 obtain ⟨h3, h4⟩ := hy
 rename_i p q _ _ _ _ _ _ p' q'
 have m1 : Ht 400000 (p * p') := hz.1.mul hw.1 (by decide)
 have m2 : Ht 400000 (p * q') := hz.1.mul hw.2 (by decide)
 have m3 : Ht 400000 (q * p') := hz.2.mul hw.1 (by decide)
 have m4 : Ht 400000 (q * q') := hz.2.mul hw.2 (by decide)
 have d1 := oe h1 h3
 have d2 := oe h1 h4
 have d3 := oe h2 h3
 have d4 := oe h2 h4
 have eL : LOs (p * p') (p * q') (q * p') (q * q') 3 = (b8 (p, q) (p', q')).1 := by
  show lo2 (lo2 (lo2 (p * p') (p * q')) (q * p')) (q * q') = mn (mn (p * p') (p * q')) (mn (q * p') (q * q'))
  rw [apl, apl, apl, axf (mn _ _)]
 have eH : HIs (p * p') (p * q') (q * p') (q * q') 3 = (b8 (p, q) (p', q')).2 := by
  show hi2 (hi2 (hi2 (p * p') (p * q')) (q * p')) (q * q') = mx (mx (p * p') (p * q')) (mx (q * p') (q * q'))
  rw [ao9, ao9, ao9, axg (mx _ _)]
 obtain ⟨R, hR⟩ : ∃ R, R = b8 (p, q) (p', q') := ⟨_, rfl⟩
 rw [← hR] at eL eH ⊢
 generalize p * p' = a at *
 generalize p * q' = b at *
 generalize q * p' = c at *
 generalize q * q' = d at *
 have gL := a3a m1 m2 m3 m4
 have gH := a29 m1 m2 m3 m4
 refine ao af Tryz.func84 ?_
 repeat' ((conv => whnf); first | refine aa.mk _ _ (d1) ?_ | refine aa.mk _ _ (d2) ?_ | refine aa.mk _ _ (d3) ?_ | refine aa.mk _ _ (d4) ?_ | refine rgE ?_ | refine Cd.mk rfl ?_ | (refine TkE.fL ?_; (conv => whnf); fail_if_success (show ae _ _)) | ((with_reducible refine EqE.idS ?_); (refine EqE.fP ?_; (conv => whnf); fail_if_success (show ae _ _))) | refine Cd.ol ?_ | refine Cd.os ?_)
 refine ⟨[], [4, 6, 35, 36, 37], [4, 5, 6], fun m xs h => ∃ (i : Nat) (lo hi : Dyadic), m = 3 - i ∧ i ≤ 3 ∧ lo = LOs a b c d i ∧ hi = HIs a b c d i ∧
   xs = [.ptr 4 0, .ptr 6 0, .own 5 3 3 3, .d (.int .i64 3), .d (.int .i64 (i : Nat))] ∧ h = [(6, false, dyC lo ++ dyC hi), (5, false, dyC a ++ dyC b ++ dyC c ++ dyC d), (4, false, [.d (.bool false), .d .nil, .d (.int .i64 0), .d (.bool false), .d .nil, .d (.int .i64 0)])],
  ⟨_, _, _, ⟨.inl rfl, rfl, rfl, by first | rfl | (repeat first | exact all_nil _ | refine bm _ _ _ _ _ ?_)⟩, 0, a, a, rfl, by decide, rfl, rfl, rfl, rfl⟩, ?_⟩
 rintro m xs h ⟨i, lo, hi, rfl, hi3, hlo, hhi, rfl, rfl⟩
 have nL := gL i
 have nH := gH i
 rw [← hlo] at nL
 rw [← hhi] at nH
 have hl : ∀ {u v : Dyadic}, Ht 400000 u → Ht 400000 v → Ht 1048576 (u - v) := fun h k => h.sub k (by decide)
 have i4 : i = 0 ∨ i = 1 ∨ i = 2 ∨ i = 3 := by omega
 rcases i4 with rfl | rfl | rfl | rfl
 ·have sL : LOs a b c d 1 = lo2 lo b := by rw [hlo]; rfl
  have sH : HIs a b c d 1 = hi2 hi b := by rw [hhi]; rfl
  repeat' ((conv => whnf); first | with_reducible refine ag.data ?_ | refine aa.mk _ _ (jw (p := b) (q := lo) (.of (m2.mono (by decide))) (.of (nL.mono (by decide))) (hl m2 nL)) ?_ | refine aa.mk _ _ (jw (p := b) (q := hi) (.of (m2.mono (by decide))) (.of (nH.mono (by decide))) (hl m2 nH)) ?_ | refine rgE ?_ | refine Cd.mk rfl ?_ | refine Br.t ?_ | with_reducible refine Br.dec (fun _ => ?_) (fun _ => ?_) | (refine TkE.fL ?_; (conv => whnf); fail_if_success (show ae _ _)) | refine an.cu _ _ ?_ | ((with_reducible refine EqE.idW ?_); with_reducible refine EqE.mk _ (ax _ (by omega)) ?_) | ((with_reducible refine EqE.idS ?_); (refine EqE.fP ?_; (conv => whnf); fail_if_success (show ae _ _))) | refine Cd.ol ?_ | refine Cd.os ?_)
  ·rename_i g1 g2
   exact ⟨_, ⟨1, b, b, rfl, by decide, by rw [sL]; unfold lo2; rw [if_pos (dq.1 g1)], by rw [sH]; unfold hi2; rw [if_pos (dp.1 g2)], rfl, rfl⟩, by decide⟩
  ·rename_i g1 g2
   exact ⟨_, ⟨1, b, hi, rfl, by decide, by rw [sL]; unfold lo2; rw [if_pos (dq.1 g1)], by rw [sH]; unfold hi2; rw [if_neg (fun k => g2 (dp.2 k))], rfl, rfl⟩, by decide⟩
  ·rename_i g1 g2
   exact ⟨_, ⟨1, lo, b, rfl, by decide, by rw [sL]; unfold lo2; rw [if_neg (fun k => g1 (dq.2 k))], by rw [sH]; unfold hi2; rw [if_pos (dp.1 g2)], rfl, rfl⟩, by decide⟩
  ·rename_i g1 g2
   exact ⟨_, ⟨1, lo, hi, rfl, by decide, by rw [sL]; unfold lo2; rw [if_neg (fun k => g1 (dq.2 k))], by rw [sH]; unfold hi2; rw [if_neg (fun k => g2 (dp.2 k))], rfl, rfl⟩, by decide⟩
 ·have sL : LOs a b c d 2 = lo2 lo c := by rw [hlo]; rfl
  have sH : HIs a b c d 2 = hi2 hi c := by rw [hhi]; rfl
  repeat' ((conv => whnf); first | with_reducible refine ag.data ?_ | refine aa.mk _ _ (jw (p := c) (q := lo) (.of (m3.mono (by decide))) (.of (nL.mono (by decide))) (hl m3 nL)) ?_ | refine aa.mk _ _ (jw (p := c) (q := hi) (.of (m3.mono (by decide))) (.of (nH.mono (by decide))) (hl m3 nH)) ?_ | refine rgE ?_ | refine Cd.mk rfl ?_ | refine Br.t ?_ | with_reducible refine Br.dec (fun _ => ?_) (fun _ => ?_) | (refine TkE.fL ?_; (conv => whnf); fail_if_success (show ae _ _)) | refine an.cu _ _ ?_ | ((with_reducible refine EqE.idW ?_); with_reducible refine EqE.mk _ (ax _ (by omega)) ?_) | ((with_reducible refine EqE.idS ?_); (refine EqE.fP ?_; (conv => whnf); fail_if_success (show ae _ _))) | refine Cd.ol ?_ | refine Cd.os ?_)
  ·rename_i g1 g2
   exact ⟨_, ⟨2, c, c, rfl, by decide, by rw [sL]; unfold lo2; rw [if_pos (dq.1 g1)], by rw [sH]; unfold hi2; rw [if_pos (dp.1 g2)], rfl, rfl⟩, by decide⟩
  ·rename_i g1 g2
   exact ⟨_, ⟨2, c, hi, rfl, by decide, by rw [sL]; unfold lo2; rw [if_pos (dq.1 g1)], by rw [sH]; unfold hi2; rw [if_neg (fun k => g2 (dp.2 k))], rfl, rfl⟩, by decide⟩
  ·rename_i g1 g2
   exact ⟨_, ⟨2, lo, c, rfl, by decide, by rw [sL]; unfold lo2; rw [if_neg (fun k => g1 (dq.2 k))], by rw [sH]; unfold hi2; rw [if_pos (dp.1 g2)], rfl, rfl⟩, by decide⟩
  ·rename_i g1 g2
   exact ⟨_, ⟨2, lo, hi, rfl, by decide, by rw [sL]; unfold lo2; rw [if_neg (fun k => g1 (dq.2 k))], by rw [sH]; unfold hi2; rw [if_neg (fun k => g2 (dp.2 k))], rfl, rfl⟩, by decide⟩
 ·have sL : LOs a b c d 3 = lo2 lo d := by rw [hlo]; rfl
  have sH : HIs a b c d 3 = hi2 hi d := by rw [hhi]; rfl
  repeat' ((conv => whnf); first | with_reducible refine ag.data ?_ | refine aa.mk _ _ (jw (p := d) (q := lo) (.of (m4.mono (by decide))) (.of (nL.mono (by decide))) (hl m4 nL)) ?_ | refine aa.mk _ _ (jw (p := d) (q := hi) (.of (m4.mono (by decide))) (.of (nH.mono (by decide))) (hl m4 nH)) ?_ | refine rgE ?_ | refine Cd.mk rfl ?_ | refine Br.t ?_ | with_reducible refine Br.dec (fun _ => ?_) (fun _ => ?_) | (refine TkE.fL ?_; (conv => whnf); fail_if_success (show ae _ _)) | refine an.cu _ _ ?_ | ((with_reducible refine EqE.idW ?_); with_reducible refine EqE.mk _ (ax _ (by omega)) ?_) | ((with_reducible refine EqE.idS ?_); (refine EqE.fP ?_; (conv => whnf); fail_if_success (show ae _ _))) | refine Cd.ol ?_ | refine Cd.os ?_)
  ·rename_i g1 g2
   exact ⟨_, ⟨3, d, d, rfl, by decide, by rw [sL]; unfold lo2; rw [if_pos (dq.1 g1)], by rw [sH]; unfold hi2; rw [if_pos (dp.1 g2)], rfl, rfl⟩, by decide⟩
  ·rename_i g1 g2
   exact ⟨_, ⟨3, d, hi, rfl, by decide, by rw [sL]; unfold lo2; rw [if_pos (dq.1 g1)], by rw [sH]; unfold hi2; rw [if_neg (fun k => g2 (dp.2 k))], rfl, rfl⟩, by decide⟩
  ·rename_i g1 g2
   exact ⟨_, ⟨3, lo, d, rfl, by decide, by rw [sL]; unfold lo2; rw [if_neg (fun k => g1 (dq.2 k))], by rw [sH]; unfold hi2; rw [if_pos (dp.1 g2)], rfl, rfl⟩, by decide⟩
  ·rename_i g1 g2
   exact ⟨_, ⟨3, lo, hi, rfl, by decide, by rw [sL]; unfold lo2; rw [if_neg (fun k => g1 (dq.2 k))], by rw [sH]; unfold hi2; rw [if_neg (fun k => g2 (dp.2 k))], rfl, rfl⟩, by decide⟩
 ·rw [eL] at hlo
  rw [eH] at hhi
  subst hlo hhi
  repeat' ((conv => whnf); first | refine rgE ?_ | refine Cd.mk rfl ?_ | refine Br.f ?_ | (refine TkE.fL ?_; (conv => whnf); fail_if_success (show ae _ _)) | refine Res.mk ?_ | ((with_reducible refine EqE.idS ?_); (refine EqE.fP ?_; (conv => whnf); fail_if_success (show ae _ _))) | refine Cd.ol ?_)
  rfl
end Go.Ev.Ar

namespace Go.Ev.Ar
open Go Go.Ev Go.Proofs
theorem rb (e : Int) : Sim Tryz.prog G0 true 213 [.int .i64 e] (.int .i64 (min (max e 1) 4000)) := by
 refine ao af Tryz.func213 ?_
 repeat' ((conv => whnf); first | refine rgE ?_ | refine Res.mk ?_ | ((with_reducible refine EqE.idI ?_); first | refine EqE.mk _ (max_eq _ _) ?_ | refine EqE.mk _ (min_eq _ _) ?_))
 rfl
theorem azq (b : Bool) (l : List UInt32) : zv b l % 2 = 1 ↔ (l.getD 0 0).toNat % 2 = 1 := by
 have h := abu l 0
 rw [aei, Nat.div_one] at h
 unfold zv; split <;> omega
theorem ayp {x y : D} {f r : Int} (s : Nat) (mode : Int) (hx : ZR x f) (hy : ZR y r) (hf : Zt 4200000 f) (hr : Zt 4200000 r) (hs : s ≤ 4200000) : Sim Tryz.prog G0 true 211 [x, y, .int .i64 s, .int .i64 mode] (.bool (upB f r s mode)) := by
 have z1 : Zt 4200001 (r * 2 ^ Int.toNat 1) := hr.shl (by decide)
 have z2 : Zt 4200100 (1 * 2 ^ (s : Int).toNat) := (Zt.small (n := 1) (h := 64) (by decide) (by decide)).shl (by omega)
 have z3 := z1.sub z2 (c := 4200101) (by decide)
 have o1 : ZR (zD 1) 1 := (cz (by decide)).1
 obtain ⟨b, l, hl⟩ := hx
 obtain ⟨c, k, hk⟩ := hy
 refine ao af Tryz.func211 ?_
 by_cases m0 : mode = 0
 ·repeat' ((conv => whnf); first | with_reducible refine Br.bt fun _ => ?_ | refine rgE ?_ | refine Cd.mk rfl ?_ | refine Res.mk ?_)
  unfold upB; rw [if_pos m0]; rfl
 by_cases m1 : mode = 1
 ·repeat' ((conv => whnf); first | with_reducible refine ag.data ?_ | with_reducible refine Br.bf fun _ => ?_ | with_reducible refine Br.bt fun _ => ?_ | refine aa.mk _ _ (ux (.mk c k hk)) ?_ | refine rgE ?_ | refine Cd.mk rfl ?_ | (refine TkE.fL ?_; (conv => whnf); fail_if_success (show ae _ _)) | refine Res.mk ?_)
  unfold upB; rw [if_neg m0, if_pos m1]; rfl
 unfold upB
 rw [if_neg m0, if_neg m1]
 have hX : zv c k * 2 - 2 ^ s = zv c k * 2 ^ Int.toNat 1 - 1 * 2 ^ (s : Int).toNat := by
  rw [Int.toNat_natCast, Int.one_mul]; rfl
 have hx0 := bd (l.getD (Int.toNat 0) 0)
 have hodd := azq b l
 rw [hX]
 repeat' ((conv => whnf); first | with_reducible refine ag.data ?_ | with_reducible refine Br.bf fun _ => ?_ | refine aa.mk _ _ (wa 1 (.mk c k hk) (by decide)) ?_ | refine aa.mk _ _ (zh 1 (by decide) (by decide)) ?_ | refine aa.mk _ _ (wa _ o1 (by omega)) ?_ | refine aa.mk _ _ (azm (.of (z1.mono (by decide))) (.of (z2.mono (by decide))) (z3.mono (by decide))) ?_ | refine rgE ?_ | refine Cd.mk rfl ?_ | refine Br.t ?_ | refine Br.f ?_ | with_reducible refine Br.dec (fun _ => ?_) (fun _ => ?_) | refine ah.mk _ (dw _ _ (by omega)) ?_ | refine ah.mk _ rfl ?_ | (refine TkE.fL ?_; (conv => whnf); fail_if_success (show ae _ _)) | refine Res.mk ?_ | ((with_reducible refine EqE.idW ?_); with_reducible refine EqE.mk _ (y0 _ (by omega)) ?_) | refine Cd.om ?_)
 all_goals show D.bool _ = D.bool _
 ·rename_i h1 h2
  rw [decide_eq_true h2]; rfl
 ·rename_i h1 h2 h3
  rw [decide_eq_false h2, decide_eq_true h3, Bool.false_or, Bool.true_and]
  exact congrArg D.bool (decide_eq_decide.2 (by rw [hodd]; show (l.getD 0 0).toNat % 2 = 1 ↔ (((l.getD 0 0).toNat % 2 : Nat) : Int) = 1; omega))
 ·rename_i h1 h2 h3
  rw [decide_eq_false h2, decide_eq_false h3]; rfl
 ·rename_i h1 h2
  rw [decide_eq_true h2]; rfl
 all_goals
  rename_i h1 h2 h3
  have hl0 : ¬ (l.getD 0 0).toNat % 2 = 1 := by rw [oh (by omega)]; decide
  rw [decide_eq_false h2, decide_eq_false (fun h => hl0 (hodd.1 h)), Bool.and_false]; rfl
theorem ayo {q : Dyadic} {a : Nat} {s : Nat} (hq : Zt a (ak q)) (hs : s ≤ 3100000) (ha : a ≤ 1000000) : Zt a (ak q / 2 ^ s) ∧ Zt 4200000 (ak q / 2 ^ s * 2 ^ s) ∧ Zt 4200000 (ak q - ak q / 2 ^ s * 2 ^ s) := by
 have h1 := azo hq s
 have h2 := h1.shl (k := s) (Nat.le_refl _)
 have h3 := vi (ak q) s
 refine ⟨h1, h2.mono (by omega), ?_⟩
 refine Zt.mono (a := s) ?_ (by omega)
 rw [Zt.iff]
 have h4 : ((ak q - ak q / 2 ^ s * 2 ^ s).natAbs : Int) < ((2 ^ s : Nat) : Int) := by rw [Int.natCast_pow]; show _ < (2 : Int) ^ s; omega
 exact_mod_cast h4
theorem aqi {x : D} {q : Dyadic} (e mode : Int) (hx : DyR x q) (hq : Ht 500000 q) (h1 : -1000000 ≤ e) (h2 : e ≤ 1000000) : Sim Tryz.prog G0 false 183 [x, .int .i64 e, .int .i64 mode] (dyD (grd q e mode)) := by
 have kx := hx
 obtain ⟨hp1, hp2, hp3⟩ := hq.parts
 obtain ⟨b, l, f, hl, g1, g2, _⟩ := hx
 generalize dof (zv b l) f = q at *
 refine ao af Tryz.func183 ?_
 by_cases h : e ≤ av q
 ·rw [aws h]
  repeat' ((conv => whnf); first | with_reducible refine ag.data ?_ | with_reducible refine Br.bt fun _ => ?_ | refine aa.mk _ _ (df kx) ?_ | refine rgE ?_ | refine Cd.mk rfl ?_ | refine ah.mk _ rfl ?_ | (refine TkE.fL ?_; (conv => whnf); fail_if_success (show ae _ _)) | refine Res.mk ?_ | ((with_reducible refine EqE.idS ?_); (refine EqE.fP ?_; (conv => whnf); fail_if_success (show ae _ _))) | refine Cd.ol ?_)
  rfl
 unfold grd
 rw [if_neg h]
 have hs : e - av q = (((e - av q).toNat : Nat) : Int) := by omega
 have hs2 : (e - av q).toNat ≤ 3100000 := by omega
 obtain ⟨z1, z2, z3⟩ := ayo hp1 hs2 (by decide)
 generalize hS : (e - av q).toNat = S at *
 have z0 := hp1.mono (show 2 * 500000 ≤ 134217728 by decide)
 have z4 : Zt 1000001 (ak q / 2 ^ S + 1) := z1.add (Zt.small (n := 1) (h := 64) (by decide) (by decide)) (by decide)
 repeat' ((conv => whnf); first | with_reducible refine ag.data ?_ | with_reducible refine Br.bf fun _ => ?_ | refine aa.mk _ _ (df kx) ?_ | refine aa.mk _ _ (avc _ (.of (n := ak q) z0) (by omega)) ?_ | refine aa.mk _ _ (wa _ (.of (z1.mono (by decide))) (by omega)) ?_ | refine aa.mk _ _ (acd (.of (n := ak q) z0) (.of (z2.mono (by decide)))) ?_ | refine aa.mk _ _ (ayp S _ (.of (z1.mono (by decide))) (.of (z3.mono (by decide))) (z1.mono (by decide)) z3 (by omega)) ?_ | refine aa.mk _ _ (zh 1 (by decide) (by decide)) ?_ | refine aa.mk _ _ (yh (.of (z1.mono (by decide))) (cz (n := 1) (by decide)).1) ?_ | refine aa.mk _ _ (ko (.of (z4.mono (by decide))) (z4.mono (by decide)) (by omega) (by omega)) ?_ | refine aa.mk _ _ (ko (.of (z1.mono (by decide))) (z1.mono (by decide)) (by omega) (by omega)) ?_ | refine rgE ?_ | refine Cd.mk rfl ?_ | refine Br.mk (fun _ => ?_) (fun _ => ?_) | refine ah.mk _ rfl ?_ | (refine TkE.fL ?_; (conv => whnf); fail_if_success (show ae _ _)) | refine Res.mk ?_ | ((with_reducible refine EqE.idW ?_); refine EqE.mk ((S : Nat) : Int) (by rw [aj (by omega) (by omega)]; exact hs) ?_) | ((with_reducible refine EqE.idS ?_); (refine EqE.fP ?_; (conv => whnf); fail_if_success (show ae _ _))) | refine Cd.ol ?_)
 ·rename_i h3
  show dyD (dof (if upB (ak q / 2 ^ S) (ak q - ak q / 2 ^ S * 2 ^ S) S mode = true then ak q / 2 ^ S + 1 else ak q / 2 ^ S) e) = dyD (dof (ak q / 2 ^ S + 1) e)
  rw [Int.toNat_natCast] at h3
  rw [if_pos h3]
 ·rename_i h3
  rw [Int.toNat_natCast] at h3
  show dyD (dof (if upB (ak q / 2 ^ S) (ak q - ak q / 2 ^ S * 2 ^ S) S mode = true then ak q / 2 ^ S + 1 else ak q / 2 ^ S) e) = dyD (dof (ak q / 2 ^ S) e)
  rw [if_neg (by rw [h3]; decide)]
def cn (q : Dyadic) (p : Int) : Int := db q - min (max p 1) 4000 + 1
theorem aqj {x : D} {q : Dyadic} (p : Int) (hx : DyR x q) (hq : Ht 100000 q) : Sim Tryz.prog G0 true 184 [x, .int .i64 p] (.int .i64 (cn q p)) := by
 have kx := hx
 have ht := xi hq
 obtain ⟨b, l, f, hl, g1, g2, _⟩ := hx
 refine ao af Tryz.func184 ?_
 repeat' ((conv => whnf); first | with_reducible refine ag.data ?_ | refine aa.mk _ _ (afx kx) ?_ | refine aa.mk _ _ (rb _) ?_ | refine rgE ?_ | refine Cd.mk rfl ?_ | (refine TkE.fL ?_; (conv => whnf); fail_if_success (show ae _ _)) | refine Res.mk ?_ | ((with_reducible refine EqE.idW ?_); refine EqE.mk _ (aj (by omega) (by omega)) ?_))
 rfl
def rto (q : Dyadic) (p mode : Int) : Dyadic := if q = 0 then 0 else grd q (cn q p) mode
theorem ayn {x : D} {q : Dyadic} (p mode : Int) (hx : DyR x q) (hq : Ht 100000 q) : Sim Tryz.prog G0 false 136 [x, .int .i64 p, .int .i64 mode] (dyD (rto q p mode)) := by
 have kx := hx
 have ht := xi hq
 have hu : -104000 ≤ cn q p ∧ cn q p ≤ 300001 := by unfold cn; omega
 obtain ⟨b, l, f, hl, g1, g2, _⟩ := hx
 refine ao af Tryz.func136 ?_
 repeat' ((conv => whnf); first | with_reducible refine ag.data ?_ | refine aa.mk _ _ (gi kx) ?_ | refine aa.mk _ _ (aqj _ kx hq) ?_ | refine aa.mk _ _ (aqi _ _ kx (hq.mono (by decide)) (by omega) (by omega)) ?_ | refine rgE ?_ | refine Cd.mk rfl ?_ | with_reducible refine Br.dec (fun _ => ?_) (fun _ => ?_) | (refine TkE.fL ?_; (conv => whnf); fail_if_success (show ae _ _)) | refine Res.mk ?_ | ((with_reducible refine EqE.idS ?_); (refine EqE.fP ?_; (conv => whnf); fail_if_success (show ae _ _))) | refine Cd.ol ?_)
 ·rename_i h
  show dyD _ = D.agg [.bool false, sl [], .int .i64 0]
  rw [tq]; unfold rto; rw [if_pos (jj.1 h)]
 ·rename_i h
  show dyD _ = dyD (grd _ _ _)
  unfold rto; rw [if_neg (fun e => h (jj.2 e))]
end Go.Ev.Ar

namespace Go.Ev
open Go
theorem u9 (f e : Int) {E : Int} {S : Nat} (h : e = E + S) : dof f e = dof (f * 2 ^ S) E := by rw [fw, h]
theorem atu (q : Dyadic) (e : Int) : (∀ mode, grd q e mode = q) ∨
  (∃ (E f r : Int) (S : Nat), 0 < S ∧ e = E + S ∧ av q = E ∧ q = dof (f * 2 ^ S + r) E ∧ 0 ≤ r ∧ r < 2 ^ S ∧ (q ≠ 0 → 0 < r) ∧ ∀ mode, grd q e mode = dof (if upB f r S mode then f + 1 else f) e) := by
 by_cases h : e ≤ av q
 ·exact .inl fun mode => aws h
 ·refine .inr ⟨av q, ak q / 2 ^ (e - av q).toNat, ak q - ak q / 2 ^ (e - av q).toNat * 2 ^ (e - av q).toNat, (e - av q).toNat, by omega, by omega, rfl, ?_, (vi _ _).1, (vi _ _).2, fun h0 => axw (al3 h0) (by omega), fun mode => ?_⟩
  ·rw [show ak q / 2 ^ (e - av q).toNat * 2 ^ (e - av q).toNat + (ak q - ak q / 2 ^ (e - av q).toNat * 2 ^ (e - av q).toNat) = ak q by omega, bu]
  ·unfold grd; rw [if_neg h]
theorem up0 (f r : Int) (S : Nat) : upB f r S 0 = false := by unfold upB; rw [if_pos rfl]
theorem up1 (f r : Int) (S : Nat) : upB f r S 1 = decide (0 < r) := by
 unfold upB; rw [if_neg (by decide), if_pos rfl]
 exact decide_eq_decide.2 (by show 0 < Int.sign r ↔ _; rw [Int.sign_pos_iff])
theorem up2 (f r : Int) (S : Nat) {mode : Int} (h0 : mode ≠ 0) (h1 : mode ≠ 1) : upB f r S mode = (decide (2 ^ S < r * 2) || (decide (r * 2 = 2 ^ S) && decide (f % 2 = 1))) := by
 unfold upB; rw [if_neg h0, if_neg h1]
 congr 1
 ·exact decide_eq_decide.2 (by show 0 < Int.sign _ ↔ _; rw [Int.sign_pos_iff]; omega)
 ·congr 1
  exact decide_eq_decide.2 (by rw [Int.sign_eq_zero_iff_zero]; omega)
theorem acq (q : Dyadic) (e : Int) : grd q e 0 ≤ q ∧ q ≤ grd q e 1 ∧ q - grd q e 0 < dof 1 e ∧ grd q e 1 - q < dof 1 e ∧ (grd q e 2 = grd q e 0 ∨ grd q e 2 = grd q e 1) ∧
  (q - grd q e 0 < grd q e 1 - q → grd q e 2 = grd q e 0) ∧ (grd q e 1 - q < q - grd q e 0 → grd q e 2 = grd q e 1) ∧ (grd q e 0 = q ↔ grd q e 0 = grd q e 1) ∧ (grd q e 0 ≠ q → grd q e 1 - grd q e 0 = dof 1 e) := by
 have h1e : 0 < dof 1 e := pd.2 (by decide)
 rcases atu q e with h | ⟨E, f, r, S, hS, he, hE, hq, hr0, hr1, hr2, h⟩
 ·rw [h, h, h]; grind
 ·have a0 := h 0
  have a1 := h 1
  have a2 := h 2
  rw [up0, if_neg (by decide), u9 f e he] at a0
  rw [up1] at a1
  rw [up2 f r S (by decide) (by decide)] at a2
  rw [u9 1 e he, Int.one_mul]
  by_cases hz : r = 0
  ·have hq0 : q = 0 := Classical.byContradiction fun c => by have := hr2 c; omega
   have hp : (0 : Int) < 2 ^ S := Int.pow_pos (by decide)
   rw [decide_eq_false (by omega), if_neg (by decide), u9 f e he] at a1
   rw [decide_eq_false (by omega), decide_eq_false (show ¬ r * 2 = 2 ^ S by omega), Bool.false_and, Bool.or_false, if_neg (by decide), u9 f e he] at a2
   rw [hz, Int.add_zero] at hq
   rw [a0, a1, a2, hq]
   have hpp : 0 < dof (2 ^ S) E := pd.2 hp
   grind
  ·have hr3 : 0 < r := by omega
   rw [decide_eq_true hr3, if_pos rfl, u9 (f + 1) e he, Int.add_mul, Int.one_mul] at a1
   rw [a0, a1]
   refine ⟨by rw [hq, ack]; omega, by rw [hq, ack]; omega, by rw [hq, pf, mg]; omega, by rw [hq, pf, mg]; omega, ?_, ?_, ?_, ?_, ?_⟩
   ·rw [a2]; split
    ·right; rw [u9 (f + 1) e he, Int.add_mul, Int.one_mul]
    ·left; rw [u9 f e he]
   ·intro h
    rw [hq, pf, pf, mg] at h
    rw [a2, decide_eq_false (by omega), decide_eq_false (show ¬ r * 2 = 2 ^ S by omega), Bool.false_and, Bool.or_false, if_neg (by decide), u9 f e he]
   ·intro h
    rw [hq, pf, pf, mg] at h
    rw [a2, decide_eq_true (by omega), Bool.true_or, if_pos rfl, u9 (f + 1) e he, Int.add_mul, Int.one_mul]
   ·rw [hq, aj6, aj6]; omega
   ·intro _; rw [pf]; congr 1; omega
end Go.Ev

namespace Go.Ev
open Go
theorem yo {a p q : Dyadic} (ha : 0 ≤ a) (h : p ≤ q) : a * p ≤ a * q := by
 rw [← Dyadic.toRat_le_toRat_iff, Dyadic.toRat_mul, Dyadic.toRat_mul]
 rw [← Dyadic.toRat_le_toRat_iff, Dyadic.toRat_zero] at ha
 rw [← Dyadic.toRat_le_toRat_iff] at h
 exact Rat.mul_le_mul_of_nonneg_left h ha
theorem arc {a p q : Dyadic} (ha : 0 < a) (h : p < q) : a * p < a * q := by
 have h1 := yo (show (0 : Dyadic) ≤ a by grind) (show p ≤ q by grind)
 rcases Classical.em (a * p = a * q) with e | e
 ·exfalso
  have h2 : a * (q - p) = 0 := by grind
  have h3 : ak a * ak (q - p) = 0 := by rw [← awd, h2]; rfl
  rcases Int.mul_eq_zero.1 h3 with h4 | h4
  ·have := fh.1 h4; grind
  ·have := fh.1 h4; grind
 ·grind
theorem adu {a p q : Dyadic} (ha : 0 < a) : a * p ≤ a * q ↔ p ≤ q := by
 constructor
 ·intro h
  rcases Classical.em (p ≤ q) with e | e
  ·exact e
  ·have := arc ha (show q < p by grind); grind
 ·exact yo (by grind)
theorem xf {a p q : Dyadic} (ha : 0 < a) : a * p < a * q ↔ p < q := by
 have := adu (p := q) (q := p) ha; grind
theorem aa7 (m e f : Int) : dof m e = dof (m * 2 ^ (e - f).toNat) (e - (e - f).toNat) := by
 rw [fw]; congr 1; omega
theorem are {m n e f : Int} : dof m e ≤ dof n f ↔ m * 2 ^ (e - f).toNat ≤ n * 2 ^ (f - e).toNat := by
 rw [aa7 m e f, aa7 n f e, show e - ((e - f).toNat : Int) = f - ((f - e).toNat : Int) by omega, ack]
theorem az5 {m n e f : Int} : dof m e < dof n f ↔ m * 2 ^ (e - f).toNat < n * 2 ^ (f - e).toNat := by
 rw [aa7 m e f, aa7 n f e, show e - ((e - f).toNat : Int) = f - ((f - e).toNat : Int) by omega, mg]
theorem ti (e : Int) : 0 < dof 1 e := pd.2 (by decide)
theorem ard {a b : Int} : dof 1 a ≤ dof 1 b ↔ a ≤ b := by
 constructor
 ·intro h
  rcases Int.lt_or_le b a with h1 | h1
  ·rw [are, Int.one_mul, Int.one_mul, show (b - a).toNat = 0 by omega, Int.pow_zero] at h
   have h2 : (2 : Int) ^ 1 ≤ 2 ^ (a - b).toNat := by
    have := Nat.pow_le_pow_right (n := 2) (by decide) (show 1 ≤ (a - b).toNat by omega)
    exact_mod_cast this
   omega
  ·exact h1
 ·intro h
  rw [are, Int.one_mul, Int.one_mul, show (a - b).toNat = 0 by omega, Int.pow_zero]
  have : (0 : Int) < 2 ^ (b - a).toNat := Int.pow_pos (by decide)
  omega
theorem az4 {a b : Int} : dof 1 a < dof 1 b ↔ a < b := by
 have := ard (a := b) (b := a)
 rw [← Int.not_le, ← this]; grind
theorem afr (a b : Int) : dof 1 a * dof 1 b = dof 1 (a + b) := by rw [o9]; rfl
theorem azz {q : Dyadic} (h : q ≠ 0) : 0 < gz q := by
 have := u7 h; have := ti (db q); grind
theorem Ht.a3h {h : Nat} {q : Dyadic} (hq : Ht h q) : gz q < Go.Ev.dof 1 (h : Int) := by
 obtain ⟨n, h1, rfl⟩ := hq
 rw [av6, show (h : Int) = -(h : Int) + ((2 * h : Nat) : Int) by omega, ← fw, show -((-(h : Int) + ((2 * h : Nat) : Int) : Int)) = -(h : Int) by omega, mg, Int.one_mul]
 have h2 : n.natAbs < 2 ^ (2 * h) := Zt.iff.1 h1
 exact_mod_cast h2
theorem aa9 {h : Nat} {q : Dyadic} (hq : Ht h q) : -(h : Int) ≤ db q ∧ db q ≤ h := by
 refine ⟨(xi hq).1, ?_⟩
 by_cases h0 : q = 0
 ·subst h0; show (0 : Int) ≤ h; omega
 ·have h1 := u7 h0
  have h2 := hq.a3h
  have h3 : dof 1 (db q) < dof 1 (h : Int) := by grind
  rw [az4] at h3; omega
def wy (x y : Dyadic) : Int :=
 db x - db y - (if (ak x).natAbs * 2 ^ (-((nb (ak x).natAbs : Int) - nb (ak y).natAbs)).toNat < (ak y).natAbs * 2 ^ ((nb (ak x).natAbs : Int) - nb (ak y).natAbs).toNat then 1 else 0)
theorem ai2 {x y : Dyadic} (hx : x ≠ 0) (hy : y ≠ 0) : gz y * dof 1 (wy x y) ≤ gz x ∧ gz x < gz y * dof 1 (wy x y + 1) := by
 have x1 := u7 hx
 have x2 := vn hx
 have y1 := u7 hy
 have y2 := vn hy
 have py := azz hy
 have hc : ((ak x).natAbs * 2 ^ (-((nb (ak x).natAbs : Int) - nb (ak y).natAbs)).toNat < (ak y).natAbs * 2 ^ ((nb (ak x).natAbs : Int) - nb (ak y).natAbs).toNat) ↔ gz x < gz y * dof 1 (db x - db y) := by
  have e : gz y * dof 1 (db x - db y) = dof (ak y).natAbs (av x + ((nb (ak x).natAbs : Int) - nb (ak y).natAbs)) := by
   unfold gz
   rw [o9, Int.mul_one, aba hx, aba hy]; congr 1; omega
  rw [e]
  unfold gz
  rw [az5, show av x - (av x + ((nb (ak x).natAbs : Int) - nb (ak y).natAbs)) = -((nb (ak x).natAbs : Int) - nb (ak y).natAbs) by omega, show av x + ((nb (ak x).natAbs : Int) - nb (ak y).natAbs) - av x = (nb (ak x).natAbs : Int) - nb (ak y).natAbs by omega]
  norm_cast
 unfold wy
 split
 ·rename_i h
  have h := hc.1 h
  rw [show db x - db y - 1 + 1 = db x - db y by omega]
  refine ⟨?_, h⟩
  have h1 := arc (ti (db x - db y - 1)) y2
  rw [afr, show db x - db y - 1 + (db y + 1) = db x by omega, Dyadic.mul_comm] at h1
  grind
 ·rename_i h
  have h := fun g => h (hc.2 g)
  rw [Int.sub_zero]
  refine ⟨by grind, ?_⟩
  have h1 := yo (show 0 ≤ dof 1 (db x - db y + 1) by have := ti (db x - db y + 1); grind) y1
  rw [afr, show db x - db y + 1 + db y = db x + 1 by omega, Dyadic.mul_comm] at h1
  grind
def iu (x y : Dyadic) (p : Int) : Int := wy x y - min (max p 1) 4000 + 1
def qA (x y : Dyadic) (p : Int) : Int := ak x * 2 ^ (av x - av y - iu x y p).toNat
def qB (x y : Dyadic) (p : Int) : Int := ak y * 2 ^ (-(av x - av y - iu x y p)).toNat
def q8 (x y : Dyadic) (p mode : Int) : Dyadic := dof (if mode = 1 ∧ ¬ qA x y p % qB x y p = 0 then qA x y p / qB x y p + 1 else qA x y p / qB x y p) (iu x y p)
def nt (x y : Dyadic) (p mode : Int) : Dyadic := if y = 0 then 0 else if x = 0 then 0 else if y < 0 then q8 (-x) (-y) p mode else q8 x y p mode
theorem qAB (x y : Dyadic) (p : Int) : ∃ g : Int, x = dof (qA x y p) g ∧ ∀ f : Int, y * dof f (iu x y p) = dof (qB x y p * f) g := by
  refine ⟨av x - (av x - av y - iu x y p).toNat, ?_, fun f => ?_⟩
  · unfold qA; rw [fw, Int.sub_add_cancel, bu]
  · have e : y = dof (qB x y p) (av y - (-(av x - av y - iu x y p)).toNat) := by
      unfold qB; rw [fw, Int.sub_add_cancel, bu]
    generalize hE : iu x y p = E at *
    generalize qB x y p = B at *
    have e2 : y * dof f E = dof B (av y - (-(av x - av y - E)).toNat) * dof f E := congrArg (· * dof f E) e
    rw [e2, o9]
    congr 1; omega
theorem ac9 {x y : Dyadic} (p mode : Int) (hy : 0 < y) : ∃ f : Int, y * dof f (iu x y p) ≤ x ∧ x < y * dof (f + 1) (iu x y p) ∧ q8 x y p mode = if mode = 1 ∧ ¬ y * dof f (iu x y p) = x then dof (f + 1) (iu x y p) else dof f (iu x y p) := by
 obtain ⟨g, h1, h2⟩ := qAB x y p
 have hB : 0 < qB x y p := by unfold qB; exact Int.mul_pos (aa6.2 hy) (Int.pow_pos (by decide))
 have h3 := Int.mul_ediv_add_emod (qA x y p) (qB x y p)
 have h4 := Int.emod_nonneg (qA x y p) (Int.ne_of_gt hB)
 have h5 := Int.emod_lt_of_pos (qA x y p) hB
 refine ⟨qA x y p / qB x y p, ?_, ?_, ?_⟩
 ·rw [h2]; conv => rhs; rw [h1]
  rw [ack]; omega
 ·rw [h2]; conv => lhs; rw [h1]
  rw [mg, Int.mul_add, Int.mul_one]; omega
 ·have e : (qA x y p % qB x y p = 0) ↔ y * dof (qA x y p / qB x y p) (iu x y p) = x := by
   rw [h2]; conv => rhs; rhs; rw [h1]
   rw [aj6]; omega
  unfold q8
  by_cases c : mode = 1 ∧ ¬ qA x y p % qB x y p = 0
  ·rw [if_pos c, if_pos ⟨c.1, fun h => c.2 (e.2 h)⟩]
  ·rw [if_neg c, if_neg (fun h => c ⟨h.1, fun k => h.2 (e.1 k)⟩)]
theorem xc {p q : Dyadic} : gz p < q ↔ p < q ∧ -p < q := by rw [jm]; split <;> grind
theorem aew (P e : Int) (hP : 0 ≤ P) : dof (2 ^ P.toNat) e = dof 1 (e + P) := by
 have := fw 1 e P.toNat
 rw [Int.one_mul, show ((P.toNat : Nat) : Int) = P by omega] at this
 exact this
theorem ap7 {x y : Dyadic} {p f : Int} (hx : x ≠ 0) (hy : 0 < y) (h1 : y * dof f (iu x y p) ≤ x) (h2 : x < y * dof (f + 1) (iu x y p)) :
  f < 2 ^ (min (max p 1) 4000).toNat ∧ -(2 ^ (min (max p 1) 4000).toNat : Int) ≤ f ∧ (0 < x → 2 ^ (min (max p 1) 4000 - 1).toNat ≤ f) ∧ (x < 0 → f ≤ -(2 ^ (min (max p 1) 4000 - 1).toNat : Int) ∧ (¬ y * dof f (iu x y p) = x → f + 1 ≤ -(2 ^ (min (max p 1) 4000 - 1).toNat : Int))) := by
 have hy0 : y ≠ 0 := by grind
 obtain ⟨a1, a2⟩ := ai2 hx hy0
 have ey : gz y = y := by rw [jm, if_neg (by grind)]
 rw [ey] at a1 a2
 have e1 : dof (2 ^ (min (max p 1) 4000).toNat) (iu x y p) = dof 1 (wy x y + 1) := by
  rw [aew _ _ (by omega)]; unfold iu; congr 1; omega
 have e2 : dof (2 ^ (min (max p 1) 4000 - 1).toNat) (iu x y p) = dof 1 (wy x y) := by
  rw [aew _ _ (by omega)]; unfold iu; congr 1; omega
 rw [← e1] at a2
 rw [← e2] at a1
 generalize (2 : Int) ^ (min (max p 1) 4000).toNat = K at *
 generalize (2 : Int) ^ (min (max p 1) 4000 - 1).toNat = L at *
 obtain ⟨b1, b2⟩ := xc.1 a2
 refine ⟨?_, ?_, ?_, ?_⟩
 ·have h3 : y * dof f (iu x y p) < y * dof K (iu x y p) := by grind
  rwa [xf hy, mg] at h3
 ·have h3 : y * dof (-K) (iu x y p) < y * dof (f + 1) (iu x y p) := by
   rw [← n5]; grind
  rw [xf hy, mg] at h3; omega
 ·intro h
  rw [jm, if_neg (by grind)] at a1
  have h3 : y * dof L (iu x y p) < y * dof (f + 1) (iu x y p) := by grind
  rw [xf hy, mg] at h3; omega
 ·intro h
  rw [jm, if_pos h] at a1
  have h4 : x ≤ y * dof (-L) (iu x y p) := by rw [← n5]; grind
  have h3 : y * dof f (iu x y p) ≤ y * dof (-L) (iu x y p) := by grind
  rw [adu hy, ack] at h3
  refine ⟨h3, fun hn => ?_⟩
  rcases Classical.em (f = -L) with c | c
  ·rw [c] at h1 hn; exfalso; grind
  ·omega
theorem xy {x y : Dyadic} (p mode : Int) (hx : x ≠ 0) (hy : 0 < y) : nt x y p mode = q8 x y p mode := by
 unfold nt; rw [if_neg (by grind), if_neg hx, if_neg (by grind)]
theorem ag0 {x y : Dyadic} (p mode : Int) (hx : x ≠ 0) (hy : y < 0) : nt x y p mode = q8 (-x) (-y) p mode := by
 unfold nt; rw [if_neg (by grind), if_neg hx, if_pos hy]
theorem asv {x y : Dyadic} (p : Int) (hy : 0 < y) : y * q8 x y p 0 ≤ x := by
 obtain ⟨f, h1, h2, h3⟩ := ac9 (x := x) p 0 hy
 rw [h3, if_neg (fun h => absurd h.1 (by decide))]; exact h1
theorem ai1 {x y : Dyadic} (p mode : Int) (hy : 0 < y) : (0 < x → 0 < q8 x y p mode) ∧ (x < 0 → q8 x y p mode < 0) := by
 obtain ⟨f, h1, h2, h3⟩ := ac9 (x := x) p mode hy
 rw [h3]
 have hL : (0 : Int) < 2 ^ (min (max p 1) 4000 - 1).toNat := Int.pow_pos (by decide)
 constructor
 ·intro h
  obtain ⟨_, _, g, _⟩ := ap7 (p := p) (by grind) hy h1 h2
  have g := g h
  split <;> (rw [pd]; omega)
 ·intro h
  obtain ⟨_, _, _, g⟩ := ap7 (p := p) (by grind) hy h1 h2
  obtain ⟨g1, g2⟩ := g h
  split
  ·rename_i c
   have := g2 c.2
   rw [ru]; omega
  ·rw [ru]; omega
theorem aud (y : Dyadic) (p mode : Int) : nt 0 y p mode = 0 := by
 unfold nt
 split
 ·rfl
 ·first | rfl | rw [if_pos rfl]
theorem a1i {x y : Dyadic} (p : Int) : (0 < y → y * nt x y p 0 ≤ x) ∧ (y < 0 → x ≤ y * nt x y p 0) := by
 by_cases hx : x = 0
 ·have e : nt x y p 0 = 0 := by rw [hx]; exact aud y p 0
  rw [e, Dyadic.mul_zero, hx]; grind
 constructor
 ·intro h; rw [xy p 0 hx h]; exact asv p h
 ·intro h; rw [ag0 p 0 hx h]; have := asv (x := -x) p (show 0 < -y by grind); grind
theorem uj {x y : Dyadic} (p mode : Int) (hx : 0 < x) : (0 < y → 0 < nt x y p mode) ∧ (y < 0 → nt x y p mode < 0) := by
 constructor
 ·intro h; rw [xy p mode (by grind) h]; exact (ai1 p mode h).1 hx
 ·intro h; rw [ag0 p mode (by grind) h]; exact (ai1 p mode (show 0 < -y by grind)).2 (by grind)
theorem asw {a b : Nat} {x y : Dyadic} (hx : Ht a x) (hy : Ht b y) : -(a + b + 1 : Int) ≤ wy x y ∧ wy x y ≤ a + b := by
 have h1 := aa9 hx
 have h2 := aa9 hy
 unfold wy
 split <;> omega
theorem zi {k : Nat} {f : Int} (h1 : f ≤ 2 ^ k) (h2 : -(2 ^ k : Int) ≤ f) : Zt (k + 1) f := by
 rw [Zt.iff]
 have e : (2 : Nat) ^ (k + 1) = 2 ^ k + 2 ^ k := by rw [Nat.pow_succ]; omega
 have h3 : 0 < 2 ^ k := Nat.pow_pos (by decide)
 have h4 : (2 : Int) ^ k = ((2 ^ k : Nat) : Int) := by rw [Int.natCast_pow]; rfl
 rw [h4] at h1 h2
 omega
theorem asu {a b K : Nat} {x y : Dyadic} {p : Int} (mode : Int) (hx0 : x ≠ 0) (hy0 : 0 < y) (hx : Ht a x) (hy : Ht b y) (hp : min (max p 1) 4000 ≤ K) : Ht (a + b + 2 * K + 3) (q8 x y p mode) := by
 obtain ⟨f, h1, h2, h3⟩ := ac9 (x := x) p mode hy0
 obtain ⟨g1, g2, _, _⟩ := ap7 (p := p) hx0 hy0 h1 h2
 obtain ⟨t1, t2⟩ := asw hx hy
 have he : -((a + b + K + 1 : Nat) : Int) ≤ iu x y p ∧ iu x y p ≤ ((a + b + K + 1 : Nat) : Int) := by unfold iu; omega
 have hK : (min (max p 1) 4000).toNat + 1 ≤ K + 1 := by omega
 rw [h3]
 split
 ·exact Ht.dof ((zi (by omega) (by omega)).mono hK) he.1 he.2 (by omega)
 ·exact Ht.dof ((zi (by omega) (by omega)).mono hK) he.1 he.2 (by omega)
theorem ast {a b K : Nat} {x y : Dyadic} {p : Int} (mode : Int) (hx : Ht a x) (hy : Ht b y) (hp : min (max p 1) 4000 ≤ K) : Ht (a + b + 2 * K + 3) (nt x y p mode) := by
 unfold nt
 split
 ·exact .zero _
 ·split
  ·exact .zero _
  ·split
   ·exact asu mode (by grind) (by grind) hx.neg hy.neg hp
   ·exact asu mode (by grind) (by grind) hx hy hp
theorem akd (q : Dyadic) (e mode : Int) : ∃ k : Int, grd q e mode = dof k e := by
 unfold grd
 split
 ·rename_i h
  refine ⟨ak q * 2 ^ (av q - e).toNat, ?_⟩
  rw [fw, show e + ((av q - e).toNat : Int) = av q by omega, bu]
 ·exact ⟨_, rfl⟩
theorem xg (f e : Int) : dof (f + 1) e = dof f e + dof 1 e := (aeo f 1 e).symm
end Go.Ev

namespace Go.Ev
open Go
theorem aw3 {z : Cq} (h : Ord z) : m7 z z.1 := by unfold Ord at h; unfold m7; grind
theorem a0i {z w : Cq} {d : Dyadic} (h : iin z w) (k : m7 z d) : m7 w d := by unfold iin at h; unfold m7 at *; grind
theorem abh {z : Cq} {d : Dyadic} (h : m7 z d) : Ord z := by unfold m7 at h; unfold Ord; grind
theorem aw2 {z : Cq} {a : Dyadic} (h : m7 z a) : m7 (wu z) (gz a) := by
 rw [aer (abh h)]
 obtain ⟨h1, h2⟩ := h
 rw [jm]
 unfold m7 nm mx
 split
 ·split <;> grind
 ·split
  ·split <;> dsimp only <;> grind
  ·split <;> dsimp only <;> grind
theorem rv {a : Dyadic} (h : 0 ≤ a) : ∀ n : Nat, 0 ≤ a ^ n
 | 0 => by rw [Dyadic.pow_zero]; decide
 | n + 1 => by
  rw [Dyadic.pow_succ]
  have := yo (rv h n) h
  rwa [Dyadic.mul_zero] at this
theorem tn {a b : Dyadic} (h : 0 ≤ a) (k : a ≤ b) : ∀ n : Nat, a ^ n ≤ b ^ n
 | 0 => by rw [Dyadic.pow_zero, Dyadic.pow_zero]; grind
 | n + 1 => by
  rw [Dyadic.pow_succ, Dyadic.pow_succ]
  have h1 := yo (rv h n) k
  have h2 := yo (show 0 ≤ b by grind) (tn h k n)
  rw [Dyadic.mul_comm b, Dyadic.mul_comm b] at h2
  grind
theorem aa8 (a : Dyadic) : ∀ n : Nat, (-a) ^ (2 * n) = a ^ (2 * n) ∧ (-a) ^ (2 * n + 1) = -a ^ (2 * n + 1)
 | 0 => by rw [Nat.mul_zero, Dyadic.pow_succ, Dyadic.pow_succ, Dyadic.pow_zero, Dyadic.pow_zero]; grind
 | n + 1 => by
  obtain ⟨h1, h2⟩ := aa8 a n
  have e : ∀ b : Dyadic, b ^ (2 * (n + 1)) = b ^ (2 * n + 1) * b := fun b => by rw [← Dyadic.pow_succ]; congr 1
  have h3 : (-a) ^ (2 * (n + 1)) = a ^ (2 * (n + 1)) := by rw [e, e, h2]; grind
  refine ⟨h3, ?_⟩
  rw [Dyadic.pow_succ, Dyadic.pow_succ, h3]; grind
theorem ato (a : Dyadic) {n : Nat} (h : n % 2 = 0) : gz a ^ n = a ^ n := by
 rw [jm]; split
 ·have := (aa8 a (n / 2)).1
  rwa [show 2 * (n / 2) = n by omega] at this
 ·rfl
theorem zl {a b : Dyadic} (k : a ≤ b) {n : Nat} (h : n % 2 = 1) : a ^ n ≤ b ^ n := by
 have e1 := (aa8 a (n / 2)).2
 have e2 := (aa8 b (n / 2)).2
 rw [show 2 * (n / 2) + 1 = n by omega] at e1 e2
 rcases Classical.em (0 ≤ a) with h1 | h1
 ·exact tn h1 k n
 ·rcases Classical.em (b ≤ 0) with h2 | h2
  ·have := tn (show 0 ≤ -b by grind) (show -b ≤ -a by grind) n
   rw [e1, e2] at this; grind
  ·have h3 := rv (show 0 ≤ -a by grind) n
   have h4 := rv (show 0 ≤ b by grind) n
   rw [e1] at h3; grind
theorem aw4 {z : Cq} {a : Dyadic} (n : Int) (h : m7 z a) : m7 (g0 z n) (a ^ kb n) := by
 unfold g0
 split
 ·rename_i h2
  obtain ⟨h3, h4⟩ := aw2 h
  rw [← ato a h2]
  exact ⟨tn (a0h (abh h)) h3 _, tn av7 h4 _⟩
 ·rename_i h2
  exact ⟨zl h.1 (by omega), zl h.2 (by omega)⟩
theorem oj {z : Cq} (n : Int) (h : Ord z) : Ord (g0 z n) := abh (aw4 n (aw3 h))
def uc (z : Cq) (p : Int) : Cq := (nt 1 z.2 p 0, nt 1 z.1 p 1)
theorem one_pos : (0 : Dyadic) < 1 := by decide
theorem at0 {z : Cq} (p : Int) (ho : Ord z) (h : ¬ m7 z 0) : (0 < z.1 ∧ 0 < z.2 ∧ 0 < (uc z p).1 ∧ 0 < (uc z p).2) ∨ (z.1 < 0 ∧ z.2 < 0 ∧ (uc z p).1 < 0 ∧ (uc z p).2 < 0) := by
 unfold Ord at ho
 unfold m7 at h
 rcases Classical.em (0 < z.1) with c | c
 ·have c2 : 0 < z.2 := by grind
  exact .inl ⟨c, c2, (uj p 0 one_pos).1 c2, (uj p 1 one_pos).1 c⟩
 ·have c2 : z.2 < 0 := by grind
  have c1 : z.1 < 0 := by grind
  exact .inr ⟨c1, c2, (uj p 0 one_pos).2 c2, (uj p 1 one_pos).2 c1⟩
end Go.Ev
