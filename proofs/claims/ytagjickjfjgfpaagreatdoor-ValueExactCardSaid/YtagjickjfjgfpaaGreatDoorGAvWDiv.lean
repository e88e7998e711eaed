/- Contracts of the given functions, on data. Conditions stand in each theorem. -/
import Derived.Test.YtagjickjfjgfpaaGreatDoorGEvR
import Derived.Test.YtagjickjfjgfpaaGreatDoorGAvNatD
import Derived.Test.YtagjickjfjgfpaaGreatDoorGEvSt
import Derived.Test.YtagjickjfjgfpaaGreatDoorGAvDyL
import Derived.Test.YtagjickjfjgfpaaGreatDoorGAvRefA
set_option linter.unusedSimpArgs false
set_option linter.unusedVariables false
namespace Go.Ev.Ar
open Go Go.Ev Go.Proofs
theorem abq {x : D} {n s : Int} (hx : ZR x n) (h : Int.sign n = s) : Sim Tryz.prog G0 true 207 [x] (.int .i64 s) := h ▸ uo hx
theorem at4 {m n : Int} (hn : 0 < n) :
  (0 ≤ zv (a7 m) (ofN (m.natAbs % n.natAbs)) → zv (a7 m) (ofN (m.natAbs / n.natAbs)) = m / n ∧ zv (a7 m) (ofN (m.natAbs % n.natAbs)) = m % n) ∧
  (zv (a7 m) (ofN (m.natAbs % n.natAbs)) < 0 → zv (a7 m) (ofN (m.natAbs / n.natAbs)) - 1 = m / n ∧ zv (a7 m) (ofN (m.natAbs % n.natAbs)) + n = m % n) := by
 obtain ⟨k, rfl⟩ := Int.eq_ofNat_of_zero_le (Int.le_of_lt hn)
 have hk : 0 < k := by omega
 have hd := Nat.div_add_mod m.natAbs k
 have hl := Nat.mod_lt m.natAbs hk
 have e : (k : Int).natAbs = k := rfl
 rw [e]
 unfold zv
 rw [av, av]
 generalize m.natAbs / k = q at *
 generalize m.natAbs % k = r at *
 have hq : ((k * q + r : Nat) : Int) = (m.natAbs : Int) := by rw [hd]
 rw [Int.natCast_add, Int.natCast_mul] at hq
 have key : ∀ u v : Int, (k : Int) * u + v = m → 0 ≤ v → v < k → u = m / k ∧ v = m % k := fun u v h1 h2 h3 => by
  obtain ⟨a, b⟩ := (Int.ediv_emod_unique (a := m) (b := k) (r := v) (q := u) (by omega)).2 ⟨by omega, h2, h3⟩
  exact ⟨a.symm, b.symm⟩
 by_cases hm : m < 0
 ·have hz : a7 m = true := by simp [a7, hm]
  rw [hz]
  simp only [if_true]
  constructor
  ·intro h0
   refine key _ _ ?_ h0 (by omega)
   rw [Int.mul_neg]; omega
  ·intro h0
   refine key _ _ ?_ (by omega) (by omega)
   rw [Int.mul_sub, Int.mul_neg]; omega
 ·have hz : a7 m = false := by simp [a7, hm]
  rw [hz]
  simp only [Bool.false_eq_true, if_false]
  constructor
  ·intro h0
   refine key _ _ (by omega) h0 (by omega)
  ·intro h0
   omega
theorem axx {x y : D} {m n : Int} (hx : ZR x m) (hy : ZR y n) (hn : 0 < n) (hm : Zt 134000000 m) (hb : Zt 134000000 n) : Sim Tryz.prog G0 false 226 [x, y] (.tup [zD (m / n), zD (m % n), .bool true]) := by
 have l1 := hm.len (k := 4187500) (by decide)
 have l2 := hb.len (k := 4187500) (by decide)
 have hd := avr (ofN m.natAbs) (ofN n.natAbs) (by omega) (by omega) (by rw [av]; omega)
 rw [av, av] at hd
 have hz : a7 n = false := by unfold a7; rw [decide_eq_false (by omega)]
 have k1 : (ofN (m.natAbs / n.natAbs)).length < 2^32 := by
  have := b5.2 (Nat.lt_of_le_of_lt (Nat.div_le_self m.natAbs n.natAbs) (b5.1 l1)); omega
 have k2 : (ofN (m.natAbs % n.natAbs)).length < 2^32 := by
  have := b5.2 (Nat.lt_of_le_of_lt (Nat.mod_le m.natAbs n.natAbs) (b5.1 l1)); omega
 have e : (!(a7 m == a7 n)) = a7 m := by rw [hz]; cases a7 m <;> rfl
 have w1 := aif (b := !(a7 m == a7 n)) (n := zv (a7 m) (ofN (m.natAbs / n.natAbs))) k1 (by rw [e])
 have w2 := m9 (a7 m) _ k2
 obtain ⟨d1, d2⟩ := at4 (m := m) hn
 have hq0 : Zt 134000000 (zv (a7 m) (ofN (m.natAbs / n.natAbs))) := hm.le (by rw [n6, av]; exact Nat.div_le_self _ _)
 have hr0 : Zt 134000000 (zv (a7 m) (ofN (m.natAbs % n.natAbs))) := hm.le (by rw [n6, av]; exact Nat.mod_le _ _)
 generalize zv (a7 m) (ofN (m.natAbs / n.natAbs)) = q0 at *
 generalize zv (a7 m) (ofN (m.natAbs % n.natAbs)) = r0 at *
 obtain ⟨b, l, hl⟩ := hx
 obtain ⟨c, k, hk⟩ := hy
 refine an af Tryz.func226 ?_
 have n1 := mc (.mk b l hl)
 have n2 := mc (.mk c k hk)
 have hy' : ZR (.agg [.bool (a7 (zv c k)), sl (ofN (zv c k).natAbs)]) (zv c k) := .of (hb.mono (by decide))
 have o1 : ZR (zD 1) 1 := .of (Zt.small (by decide) (by decide))
 have sn := abq hy' (Int.sign_eq_one_of_pos hn)
 rcases Int.lt_trichotomy r0 0 with h | h | h
 ·obtain ⟨e1, e2⟩ := d2 h
  have sr := abq (.of (n := r0) (hr0.mono (by decide))) (Int.sign_eq_neg_one_of_neg h)
  repeat' ((conv => whnf); first | with_reducible refine ah.data ?_ | refine dk.ir (ps := [(2, 1)]) rfl (by kernel_rfl) ?_ rfl | refine aa.mk _ _ (n1) ?_ | refine aa.mk _ _ (n2) ?_ | refine aa.mk _ _ (hd) ?_ | refine aa.mk _ _ (w1) ?_ | refine aa.mk _ _ (w2) ?_ | refine aa.mk _ _ (sr) ?_ | refine aa.mk _ _ (sn) ?_ | refine aa.mk _ _ (y6 1 (by decide) (by decide)) ?_ | refine aa.mk _ _ (abr (.of (n := q0) (hq0.mono (by decide))) o1) ?_ | refine aa.mk _ _ (x4 (.of (n := r0) (hr0.mono (by decide))) hy') ?_ | refine rgE ?_ | refine Cd.mk rfl ?_ | refine Br.t ?_ | refine Br.f ?_ | refine ai.mk _ rfl ?_ | (refine TkE.fL ?_; (conv => whnf); fail_if_success (show ae _ _)) | refine Res.mk ?_ | refine b8.mk (by repeat first | exact True.intro | refine And.intro (by kernel_rfl) ?_) ?_ | ((with_reducible refine EqE.idW ?_); refine EqE.mk _ (ak (by omega) (by omega)) ?_) | ((with_reducible refine EqE.idS ?_); (refine EqE.fP ?_; (conv => whnf); fail_if_success (show ae _ _))) | refine Cd.ol ?_)
  rw [← e1, ← e2]; rfl
 ·obtain ⟨e1, e2⟩ := d1 (by omega)
  have sr := abq (.of (n := r0) (hr0.mono (by decide))) (Int.sign_eq_zero_iff_zero.2 h)
  repeat' ((conv => whnf); first | with_reducible refine ah.data ?_ | refine dk.ir (ps := [(2, 1)]) rfl (by kernel_rfl) ?_ rfl | refine aa.mk _ _ (n1) ?_ | refine aa.mk _ _ (n2) ?_ | refine aa.mk _ _ (hd) ?_ | refine aa.mk _ _ (w1) ?_ | refine aa.mk _ _ (w2) ?_ | refine aa.mk _ _ (sr) ?_ | refine aa.mk _ _ (sn) ?_ | refine rgE ?_ | refine Cd.mk rfl ?_ | refine Br.f ?_ | refine ai.mk _ rfl ?_ | (refine TkE.fL ?_; (conv => whnf); fail_if_success (show ae _ _)) | refine Res.mk ?_ | refine b8.mk (by repeat first | exact True.intro | refine And.intro (by kernel_rfl) ?_) ?_ | ((with_reducible refine EqE.idW ?_); refine EqE.mk _ (ak (by omega) (by omega)) ?_) | ((with_reducible refine EqE.idS ?_); (refine EqE.fP ?_; (conv => whnf); fail_if_success (show ae _ _))) | refine Cd.ol ?_)
  rw [← e1, ← e2]; rfl
 ·obtain ⟨e1, e2⟩ := d1 (by omega)
  have sr := abq (.of (n := r0) (hr0.mono (by decide))) (Int.sign_eq_one_of_pos h)
  repeat' ((conv => whnf); first | with_reducible refine ah.data ?_ | refine dk.ir (ps := [(2, 1)]) rfl (by kernel_rfl) ?_ rfl | refine aa.mk _ _ (n1) ?_ | refine aa.mk _ _ (n2) ?_ | refine aa.mk _ _ (hd) ?_ | refine aa.mk _ _ (w1) ?_ | refine aa.mk _ _ (w2) ?_ | refine aa.mk _ _ (sr) ?_ | refine aa.mk _ _ (sn) ?_ | refine rgE ?_ | refine Cd.mk rfl ?_ | refine Br.f ?_ | refine ai.mk _ rfl ?_ | (refine TkE.fL ?_; (conv => whnf); fail_if_success (show ae _ _)) | refine Res.mk ?_ | refine b8.mk (by repeat first | exact True.intro | refine And.intro (by kernel_rfl) ?_) ?_ | ((with_reducible refine EqE.idW ?_); refine EqE.mk _ (ak (by omega) (by omega)) ?_) | ((with_reducible refine EqE.idS ?_); (refine EqE.fP ?_; (conv => whnf); fail_if_success (show ae _ _))) | refine Cd.ol ?_)
  rw [← e1, ← e2]; rfl
end Go.Ev.Ar

namespace Go.Ev.Ar
open Go Go.Ev Go.Proofs
def lo2 (l d : Dyadic) : Dyadic := if d < l then d else l
def hi2 (h d : Dyadic) : Dyadic := if h < d then d else h
theorem anz (p q : Dyadic) : lo2 p q = mn p q := by unfold lo2 mn; grind
theorem ann (p q : Dyadic) : hi2 p q = mx p q := by unfold hi2 mx; grind
theorem avf (p q r : Dyadic) : mn (mn p q) r = mn p (mn q r) := by unfold mn; grind
theorem avg (p q r : Dyadic) : mx (mx p q) r = mx p (mx q r) := by unfold mx; grind
def LOs (p q r s : Dyadic) : Nat → Dyadic
 | 0 => p
 | 1 => lo2 p q
 | 2 => lo2 (lo2 p q) r
 | _ => lo2 (lo2 (lo2 p q) r) s
def HIs (p q r s : Dyadic) : Nat → Dyadic
 | 0 => p
 | 1 => hi2 p q
 | 2 => hi2 (hi2 p q) r
 | _ => hi2 (hi2 (hi2 p q) r) s
theorem ab6 {a : Nat} {p q : Dyadic} (hp : Ht a p) (hq : Ht a q) : Ht a (lo2 p q) := by unfold lo2; split <;> assumption
theorem ab5 {a : Nat} {p q : Dyadic} (hp : Ht a p) (hq : Ht a q) : Ht a (hi2 p q) := by unfold hi2; split <;> assumption
theorem a1e {a : Nat} {p q r s : Dyadic} (hp : Ht a p) (hq : Ht a q) (hr : Ht a r) (hs : Ht a s) : ∀ i, Ht a (LOs p q r s i)
 | 0 => hp
 | 1 => ab6 hp hq
 | 2 => ab6 (ab6 hp hq) hr
 | _ + 3 => ab6 (ab6 (ab6 hp hq) hr) hs
theorem a1d {a : Nat} {p q r s : Dyadic} (hp : Ht a p) (hq : Ht a q) (hr : Ht a r) (hs : Ht a s) : ∀ i, Ht a (HIs p q r s i)
 | 0 => hp
 | 1 => ab5 hp hq
 | 2 => ab5 (ab5 hp hq) hr
 | _ + 3 => ab5 (ab5 (ab5 hp hq) hr) hs
theorem dw {p q : Dyadic} : dsg (p - q) < 0 ↔ p < q := by rw [auc]; grind
theorem du {p q : Dyadic} : dsg (p - q) > 0 ↔ q < p := by rw [ang]; grind
set_option maxHeartbeats 8000000 in
theorem qt {x y : D} {z w r : Cq} (hx : CxR x z) (hy : CxR y w) (hz : Hc 200000 z) (hw : Hc 200000 w) (h : b7 z w = r) : Sim Tryz.prog G0 false 84 [x, y] (cxD r) := by
 subst h
 obtain ⟨h1, h2⟩ := hx
 obtain ⟨h3, h4⟩ := hy
 rename_i p q _ _ _ _ _ _ p' q'
 have m1 : Ht 400000 (p * p') := hz.1.mul hw.1 (by decide)
 have m2 : Ht 400000 (p * q') := hz.1.mul hw.2 (by decide)
 have m3 : Ht 400000 (q * p') := hz.2.mul hw.1 (by decide)
 have m4 : Ht 400000 (q * q') := hz.2.mul hw.2 (by decide)
 have d1 := oi h1 h3
 have d2 := oi h1 h4
 have d3 := oi h2 h3
 have d4 := oi h2 h4
 have eL : LOs (p * p') (p * q') (q * p') (q * q') 3 = (b7 (p, q) (p', q')).1 := by
  show lo2 (lo2 (lo2 (p * p') (p * q')) (q * p')) (q * q') = mn (mn (p * p') (p * q')) (mn (q * p') (q * q'))
  rw [anz, anz, anz, avf (mn _ _)]
 have eH : HIs (p * p') (p * q') (q * p') (q * q') 3 = (b7 (p, q) (p', q')).2 := by
  show hi2 (hi2 (hi2 (p * p') (p * q')) (q * p')) (q * q') = mx (mx (p * p') (p * q')) (mx (q * p') (q * q'))
  rw [ann, ann, ann, avg (mx _ _)]
 obtain ⟨R, hR⟩ : ∃ R, R = b7 (p, q) (p', q') := ⟨_, rfl⟩
 rw [← hR] at eL eH ⊢
 generalize p * p' = a at *
 generalize p * q' = b at *
 generalize q * p' = c at *
 generalize q * q' = d at *
 have gL := a1e m1 m2 m3 m4
 have gH := a1d m1 m2 m3 m4
 refine an af Tryz.func84 ?_
 repeat' ((conv => whnf); first | refine aa.mk _ _ (d1) ?_ | refine aa.mk _ _ (d2) ?_ | refine aa.mk _ _ (d3) ?_ | refine aa.mk _ _ (d4) ?_ | refine rgE ?_ | refine Cd.mk rfl ?_ | (refine TkE.fL ?_; (conv => whnf); fail_if_success (show ae _ _)) | ((with_reducible refine EqE.idS ?_); (refine EqE.fP ?_; (conv => whnf); fail_if_success (show ae _ _))) | refine Cd.ol ?_ | refine Cd.os ?_)
 refine ⟨[], [4, 6, 35, 36, 37], [4, 5, 6], fun m xs h => ∃ (i : Nat) (lo hi : Dyadic), m = 3 - i ∧ i ≤ 3 ∧ lo = LOs a b c d i ∧ hi = HIs a b c d i ∧
   xs = [.ptr 4 0, .ptr 6 0, .own 5 3 3 3, .d (.int .i64 3), .d (.int .i64 (i : Nat))] ∧ h = [(6, false, dyC lo ++ dyC hi), (5, false, dyC a ++ dyC b ++ dyC c ++ dyC d), (4, false, [.d (.bool false), .d .nil, .d (.int .i64 0), .d (.bool false), .d .nil, .d (.int .i64 0)])],
  ⟨_, _, _, ⟨.inl rfl, rfl, rfl, by first | rfl | (repeat first | exact all_nil _ | refine bn _ _ _ _ _ ?_)⟩, 0, a, a, rfl, by decide, rfl, rfl, rfl, rfl⟩, ?_⟩
 rintro m xs h ⟨i, lo, hi, rfl, hi3, hlo, hhi, rfl, rfl⟩
 have nL := gL i
 have nH := gH i
 rw [← hlo] at nL
 rw [← hhi] at nH
 have hl : ∀ {u v : Dyadic}, Ht 400000 u → Ht 400000 v → Ht 1048576 (u - v) := fun h k => h.sub k (by decide)
 have i4 : i = 0 ∨ i = 1 ∨ i = 2 ∨ i = 3 := by omega
 rcases i4 with rfl | rfl | rfl | rfl
 ·have sL : LOs a b c d 1 = lo2 lo b := by rw [hlo]; rfl
  have sH : HIs a b c d 1 = hi2 hi b := by rw [hhi]; rfl
  repeat' ((conv => whnf); first | with_reducible refine ah.data ?_ | refine aa.mk _ _ (jz (p := b) (q := lo) (.of (m2.mono (by decide))) (.of (nL.mono (by decide))) (hl m2 nL)) ?_ | refine aa.mk _ _ (jz (p := b) (q := hi) (.of (m2.mono (by decide))) (.of (nH.mono (by decide))) (hl m2 nH)) ?_ | refine rgE ?_ | refine Cd.mk rfl ?_ | refine Br.t ?_ | with_reducible refine Br.dec (fun _ => ?_) (fun _ => ?_) | (refine TkE.fL ?_; (conv => whnf); fail_if_success (show ae _ _)) | refine ao.cu _ _ ?_ | ((with_reducible refine EqE.idW ?_); with_reducible refine EqE.mk _ (a5 _ (by omega)) ?_) | ((with_reducible refine EqE.idS ?_); (refine EqE.fP ?_; (conv => whnf); fail_if_success (show ae _ _))) | refine Cd.ol ?_ | refine Cd.os ?_)
  ·rename_i g1 g2
   exact ⟨_, ⟨1, b, b, rfl, by decide, by rw [sL]; unfold lo2; rw [if_pos (dw.1 g1)], by rw [sH]; unfold hi2; rw [if_pos (du.1 g2)], rfl, rfl⟩, by decide⟩
  ·rename_i g1 g2
   exact ⟨_, ⟨1, b, hi, rfl, by decide, by rw [sL]; unfold lo2; rw [if_pos (dw.1 g1)], by rw [sH]; unfold hi2; rw [if_neg (fun k => g2 (du.2 k))], rfl, rfl⟩, by decide⟩
  ·rename_i g1 g2
   exact ⟨_, ⟨1, lo, b, rfl, by decide, by rw [sL]; unfold lo2; rw [if_neg (fun k => g1 (dw.2 k))], by rw [sH]; unfold hi2; rw [if_pos (du.1 g2)], rfl, rfl⟩, by decide⟩
  ·rename_i g1 g2
   exact ⟨_, ⟨1, lo, hi, rfl, by decide, by rw [sL]; unfold lo2; rw [if_neg (fun k => g1 (dw.2 k))], by rw [sH]; unfold hi2; rw [if_neg (fun k => g2 (du.2 k))], rfl, rfl⟩, by decide⟩
 ·have sL : LOs a b c d 2 = lo2 lo c := by rw [hlo]; rfl
  have sH : HIs a b c d 2 = hi2 hi c := by rw [hhi]; rfl
  repeat' ((conv => whnf); first | with_reducible refine ah.data ?_ | refine aa.mk _ _ (jz (p := c) (q := lo) (.of (m3.mono (by decide))) (.of (nL.mono (by decide))) (hl m3 nL)) ?_ | refine aa.mk _ _ (jz (p := c) (q := hi) (.of (m3.mono (by decide))) (.of (nH.mono (by decide))) (hl m3 nH)) ?_ | refine rgE ?_ | refine Cd.mk rfl ?_ | refine Br.t ?_ | with_reducible refine Br.dec (fun _ => ?_) (fun _ => ?_) | (refine TkE.fL ?_; (conv => whnf); fail_if_success (show ae _ _)) | refine ao.cu _ _ ?_ | ((with_reducible refine EqE.idW ?_); with_reducible refine EqE.mk _ (a5 _ (by omega)) ?_) | ((with_reducible refine EqE.idS ?_); (refine EqE.fP ?_; (conv => whnf); fail_if_success (show ae _ _))) | refine Cd.ol ?_ | refine Cd.os ?_)
  ·rename_i g1 g2
   exact ⟨_, ⟨2, c, c, rfl, by decide, by rw [sL]; unfold lo2; rw [if_pos (dw.1 g1)], by rw [sH]; unfold hi2; rw [if_pos (du.1 g2)], rfl, rfl⟩, by decide⟩
  ·rename_i g1 g2
   exact ⟨_, ⟨2, c, hi, rfl, by decide, by rw [sL]; unfold lo2; rw [if_pos (dw.1 g1)], by rw [sH]; unfold hi2; rw [if_neg (fun k => g2 (du.2 k))], rfl, rfl⟩, by decide⟩
  ·rename_i g1 g2
   exact ⟨_, ⟨2, lo, c, rfl, by decide, by rw [sL]; unfold lo2; rw [if_neg (fun k => g1 (dw.2 k))], by rw [sH]; unfold hi2; rw [if_pos (du.1 g2)], rfl, rfl⟩, by decide⟩
  ·rename_i g1 g2
   exact ⟨_, ⟨2, lo, hi, rfl, by decide, by rw [sL]; unfold lo2; rw [if_neg (fun k => g1 (dw.2 k))], by rw [sH]; unfold hi2; rw [if_neg (fun k => g2 (du.2 k))], rfl, rfl⟩, by decide⟩
 ·have sL : LOs a b c d 3 = lo2 lo d := by rw [hlo]; rfl
  have sH : HIs a b c d 3 = hi2 hi d := by rw [hhi]; rfl
  repeat' ((conv => whnf); first | with_reducible refine ah.data ?_ | refine aa.mk _ _ (jz (p := d) (q := lo) (.of (m4.mono (by decide))) (.of (nL.mono (by decide))) (hl m4 nL)) ?_ | refine aa.mk _ _ (jz (p := d) (q := hi) (.of (m4.mono (by decide))) (.of (nH.mono (by decide))) (hl m4 nH)) ?_ | refine rgE ?_ | refine Cd.mk rfl ?_ | refine Br.t ?_ | with_reducible refine Br.dec (fun _ => ?_) (fun _ => ?_) | (refine TkE.fL ?_; (conv => whnf); fail_if_success (show ae _ _)) | refine ao.cu _ _ ?_ | ((with_reducible refine EqE.idW ?_); with_reducible refine EqE.mk _ (a5 _ (by omega)) ?_) | ((with_reducible refine EqE.idS ?_); (refine EqE.fP ?_; (conv => whnf); fail_if_success (show ae _ _))) | refine Cd.ol ?_ | refine Cd.os ?_)
  ·rename_i g1 g2
   exact ⟨_, ⟨3, d, d, rfl, by decide, by rw [sL]; unfold lo2; rw [if_pos (dw.1 g1)], by rw [sH]; unfold hi2; rw [if_pos (du.1 g2)], rfl, rfl⟩, by decide⟩
  ·rename_i g1 g2
   exact ⟨_, ⟨3, d, hi, rfl, by decide, by rw [sL]; unfold lo2; rw [if_pos (dw.1 g1)], by rw [sH]; unfold hi2; rw [if_neg (fun k => g2 (du.2 k))], rfl, rfl⟩, by decide⟩
  ·rename_i g1 g2
   exact ⟨_, ⟨3, lo, d, rfl, by decide, by rw [sL]; unfold lo2; rw [if_neg (fun k => g1 (dw.2 k))], by rw [sH]; unfold hi2; rw [if_pos (du.1 g2)], rfl, rfl⟩, by decide⟩
  ·rename_i g1 g2
   exact ⟨_, ⟨3, lo, hi, rfl, by decide, by rw [sL]; unfold lo2; rw [if_neg (fun k => g1 (dw.2 k))], by rw [sH]; unfold hi2; rw [if_neg (fun k => g2 (du.2 k))], rfl, rfl⟩, by decide⟩
 ·rw [eL] at hlo
  rw [eH] at hhi
  subst hlo hhi
  repeat' ((conv => whnf); first | refine rgE ?_ | refine Cd.mk rfl ?_ | refine Br.f ?_ | (refine TkE.fL ?_; (conv => whnf); fail_if_success (show ae _ _)) | refine Res.mk ?_ | ((with_reducible refine EqE.idS ?_); (refine EqE.fP ?_; (conv => whnf); fail_if_success (show ae _ _))) | refine Cd.ol ?_)
  rfl
end Go.Ev.Ar

namespace Go.Ev.Ar
open Go Go.Ev Go.Proofs
theorem qv (e : Int) : Sim Tryz.prog G0 true 213 [.int .i64 e] (.int .i64 (min (max e 1) 4000)) := by
 refine an af Tryz.func213 ?_
 repeat' ((conv => whnf); first | refine rgE ?_ | refine Res.mk ?_ | ((with_reducible refine EqE.idI ?_); first | refine EqE.mk _ (max_eq _ _) ?_ | refine EqE.mk _ (min_eq _ _) ?_))
 rfl
theorem ax0 (b : Bool) (l : List UInt32) : zv b l % 2 = 1 ↔ (l.getD 0 0).toNat % 2 = 1 := by
 have h := aa9 l 0
 rw [adz, Nat.div_one] at h
 unfold zv; split <;> omega
theorem awv {x y : D} {f r : Int} (s : Nat) (mode : Int) (hx : ZR x f) (hy : ZR y r) (hf : Zt 4200000 f) (hr : Zt 4200000 r) (hs : s ≤ 4200000) : Sim Tryz.prog G0 true 211 [x, y, .int .i64 s, .int .i64 mode] (.bool (upB f r s mode)) := by
 have z1 : Zt 4200001 (r * 2 ^ Int.toNat 1) := hr.shl (by decide)
 have z2 : Zt 4200100 (1 * 2 ^ (s : Int).toNat) := (Zt.small (n := 1) (h := 64) (by decide) (by decide)).shl (by omega)
 have z3 := z1.sub z2 (c := 4200101) (by decide)
 have o1 : ZR (zD 1) 1 := (cz (by decide)).1
 obtain ⟨b, l, hl⟩ := hx
 obtain ⟨c, k, hk⟩ := hy
 refine an af Tryz.func211 ?_
 by_cases m0 : mode = 0
 ·repeat' ((conv => whnf); first | with_reducible refine Br.bt fun _ => ?_ | refine rgE ?_ | refine Cd.mk rfl ?_ | refine Res.mk ?_)
  unfold upB; rw [if_pos m0]; rfl
 by_cases m1 : mode = 1
 ·repeat' ((conv => whnf); first | with_reducible refine ah.data ?_ | with_reducible refine Br.bf fun _ => ?_ | with_reducible refine Br.bt fun _ => ?_ | refine aa.mk _ _ (uo (.mk c k hk)) ?_ | refine rgE ?_ | refine Cd.mk rfl ?_ | (refine TkE.fL ?_; (conv => whnf); fail_if_success (show ae _ _)) | refine Res.mk ?_)
  unfold upB; rw [if_neg m0, if_pos m1]; rfl
 unfold upB
 rw [if_neg m0, if_neg m1]
 have hX : zv c k * 2 - 2 ^ s = zv c k * 2 ^ Int.toNat 1 - 1 * 2 ^ (s : Int).toNat := by
  rw [Int.toNat_natCast, Int.one_mul]; rfl
 have hx0 := bd (l.getD (Int.toNat 0) 0)
 have hodd := ax0 b l
 rw [hX]
 repeat' ((conv => whnf); first | with_reducible refine ah.data ?_ | with_reducible refine Br.bf fun _ => ?_ | refine aa.mk _ _ (vy 1 (.mk c k hk) (by decide)) ?_ | refine aa.mk _ _ (y6 1 (by decide) (by decide)) ?_ | refine aa.mk _ _ (vy _ o1 (by omega)) ?_ | refine aa.mk _ _ (axw (.of (z1.mono (by decide))) (.of (z2.mono (by decide))) (z3.mono (by decide))) ?_ | refine rgE ?_ | refine Cd.mk rfl ?_ | refine Br.t ?_ | refine Br.f ?_ | with_reducible refine Br.dec (fun _ => ?_) (fun _ => ?_) | refine ai.mk _ (dx _ _ (by omega)) ?_ | refine ai.mk _ rfl ?_ | (refine TkE.fL ?_; (conv => whnf); fail_if_success (show ae _ _)) | refine Res.mk ?_ | ((with_reducible refine EqE.idW ?_); with_reducible refine EqE.mk _ (yk _ (by omega)) ?_) | refine Cd.om ?_)
 all_goals show D.bool _ = D.bool _
 ·rename_i h1 h2
  rw [decide_eq_true h2]; rfl
 ·rename_i h1 h2 h3
  rw [decide_eq_false h2, decide_eq_true h3, Bool.false_or, Bool.true_and]
  exact congrArg D.bool (decide_eq_decide.2 (by rw [hodd]; show (l.getD 0 0).toNat % 2 = 1 ↔ (((l.getD 0 0).toNat % 2 : Nat) : Int) = 1; omega))
 ·rename_i h1 h2 h3
  rw [decide_eq_false h2, decide_eq_false h3]; rfl
 ·rename_i h1 h2
  rw [decide_eq_true h2]; rfl
 all_goals
  rename_i h1 h2 h3
  have hl0 : ¬ (l.getD 0 0).toNat % 2 = 1 := by rw [oj (by omega)]; decide
  rw [decide_eq_false h2, decide_eq_false (fun h => hl0 (hodd.1 h)), Bool.and_false]; rfl
theorem awu {q : Dyadic} {a : Nat} {s : Nat} (hq : Zt a (aj q)) (hs : s ≤ 3100000) (ha : a ≤ 1000000) : Zt a (aj q / 2 ^ s) ∧ Zt 4200000 (aj q / 2 ^ s * 2 ^ s) ∧ Zt 4200000 (aj q - aj q / 2 ^ s * 2 ^ s) := by
 have h1 := axy hq s
 have h2 := h1.shl (k := s) (Nat.le_refl _)
 have h3 := u9 (aj q) s
 refine ⟨h1, h2.mono (by omega), ?_⟩
 refine Zt.mono (a := s) ?_ (by omega)
 rw [Zt.iff]
 have h4 : ((aj q - aj q / 2 ^ s * 2 ^ s).natAbs : Int) < ((2 ^ s : Nat) : Int) := by rw [Int.natCast_pow]; show _ < (2 : Int) ^ s; omega
 exact_mod_cast h4
theorem aoq {x : D} {q : Dyadic} (e mode : Int) (hx : DyR x q) (hq : Ht 500000 q) (h1 : -1000000 ≤ e) (h2 : e ≤ 1000000) : Sim Tryz.prog G0 false 183 [x, .int .i64 e, .int .i64 mode] (dyD (grd q e mode)) := by
 have kx := hx
 obtain ⟨hp1, hp2, hp3⟩ := hq.parts
 obtain ⟨b, l, f, hl, g1, g2, _⟩ := hx
 generalize dof (zv b l) f = q at *
 refine an af Tryz.func183 ?_
 by_cases h : e ≤ ar q
 ·rw [aun h]
  repeat' ((conv => whnf); first | with_reducible refine ah.data ?_ | with_reducible refine Br.bt fun _ => ?_ | refine aa.mk _ _ (dg kx) ?_ | refine rgE ?_ | refine Cd.mk rfl ?_ | refine ai.mk _ rfl ?_ | (refine TkE.fL ?_; (conv => whnf); fail_if_success (show ae _ _)) | refine Res.mk ?_ | ((with_reducible refine EqE.idS ?_); (refine EqE.fP ?_; (conv => whnf); fail_if_success (show ae _ _))) | refine Cd.ol ?_)
  rfl
 unfold grd
 rw [if_neg h]
 have hs : e - ar q = (((e - ar q).toNat : Nat) : Int) := by omega
 have hs2 : (e - ar q).toNat ≤ 3100000 := by omega
 obtain ⟨z1, z2, z3⟩ := awu hp1 hs2 (by decide)
 generalize hS : (e - ar q).toNat = S at *
 have z0 := hp1.mono (show 2 * 500000 ≤ 134217728 by decide)
 have z4 : Zt 1000001 (aj q / 2 ^ S + 1) := z1.add (Zt.small (n := 1) (h := 64) (by decide) (by decide)) (by decide)
 repeat' ((conv => whnf); first | with_reducible refine ah.data ?_ | with_reducible refine Br.bf fun _ => ?_ | refine aa.mk _ _ (dg kx) ?_ | refine aa.mk _ _ (ata _ (.of (n := aj q) z0) (by omega)) ?_ | refine aa.mk _ _ (vy _ (.of (z1.mono (by decide))) (by omega)) ?_ | refine aa.mk _ _ (abr (.of (n := aj q) z0) (.of (z2.mono (by decide)))) ?_ | refine aa.mk _ _ (awv S _ (.of (z1.mono (by decide))) (.of (z3.mono (by decide))) (z1.mono (by decide)) z3 (by omega)) ?_ | refine aa.mk _ _ (y6 1 (by decide) (by decide)) ?_ | refine aa.mk _ _ (x4 (.of (z1.mono (by decide))) (cz (n := 1) (by decide)).1) ?_ | refine aa.mk _ _ (k5 (.of (z4.mono (by decide))) (z4.mono (by decide)) (by omega) (by omega)) ?_ | refine aa.mk _ _ (k5 (.of (z1.mono (by decide))) (z1.mono (by decide)) (by omega) (by omega)) ?_ | refine rgE ?_ | refine Cd.mk rfl ?_ | refine Br.mk (fun _ => ?_) (fun _ => ?_) | refine ai.mk _ rfl ?_ | (refine TkE.fL ?_; (conv => whnf); fail_if_success (show ae _ _)) | refine Res.mk ?_ | ((with_reducible refine EqE.idW ?_); refine EqE.mk ((S : Nat) : Int) (by rw [ak (by omega) (by omega)]; exact hs) ?_) | ((with_reducible refine EqE.idS ?_); (refine EqE.fP ?_; (conv => whnf); fail_if_success (show ae _ _))) | refine Cd.ol ?_)
 ·rename_i h3
  show dyD (dof (if upB (aj q / 2 ^ S) (aj q - aj q / 2 ^ S * 2 ^ S) S mode = true then aj q / 2 ^ S + 1 else aj q / 2 ^ S) e) = dyD (dof (aj q / 2 ^ S + 1) e)
  rw [Int.toNat_natCast] at h3
  rw [if_pos h3]
 ·rename_i h3
  rw [Int.toNat_natCast] at h3
  show dyD (dof (if upB (aj q / 2 ^ S) (aj q - aj q / 2 ^ S * 2 ^ S) S mode = true then aj q / 2 ^ S + 1 else aj q / 2 ^ S) e) = dyD (dof (aj q / 2 ^ S) e)
  rw [if_neg (by rw [h3]; decide)]
def cp (q : Dyadic) (p : Int) : Int := db q - min (max p 1) 4000 + 1
theorem aor {x : D} {q : Dyadic} (p : Int) (hx : DyR x q) (hq : Ht 100000 q) : Sim Tryz.prog G0 true 184 [x, .int .i64 p] (.int .i64 (cp q p)) := by
 have kx := hx
 have ht := w6 hq
 obtain ⟨b, l, f, hl, g1, g2, _⟩ := hx
 refine an af Tryz.func184 ?_
 repeat' ((conv => whnf); first | with_reducible refine ah.data ?_ | refine aa.mk _ _ (afc kx) ?_ | refine aa.mk _ _ (qv _) ?_ | refine rgE ?_ | refine Cd.mk rfl ?_ | (refine TkE.fL ?_; (conv => whnf); fail_if_success (show ae _ _)) | refine Res.mk ?_ | ((with_reducible refine EqE.idW ?_); refine EqE.mk _ (ak (by omega) (by omega)) ?_))
 rfl
def rto (q : Dyadic) (p mode : Int) : Dyadic := if q = 0 then 0 else grd q (cp q p) mode
theorem awt {x : D} {q : Dyadic} (p mode : Int) (hx : DyR x q) (hq : Ht 100000 q) : Sim Tryz.prog G0 false 136 [x, .int .i64 p, .int .i64 mode] (dyD (rto q p mode)) := by
 have kx := hx
 have ht := w6 hq
 have hu : -104000 ≤ cp q p ∧ cp q p ≤ 300001 := by unfold cp; omega
 obtain ⟨b, l, f, hl, g1, g2, _⟩ := hx
 refine an af Tryz.func136 ?_
 repeat' ((conv => whnf); first | with_reducible refine ah.data ?_ | refine aa.mk _ _ (gm kx) ?_ | refine aa.mk _ _ (aor _ kx hq) ?_ | refine aa.mk _ _ (aoq _ _ kx (hq.mono (by decide)) (by omega) (by omega)) ?_ | refine rgE ?_ | refine Cd.mk rfl ?_ | with_reducible refine Br.dec (fun _ => ?_) (fun _ => ?_) | (refine TkE.fL ?_; (conv => whnf); fail_if_success (show ae _ _)) | refine Res.mk ?_ | ((with_reducible refine EqE.idS ?_); (refine EqE.fP ?_; (conv => whnf); fail_if_success (show ae _ _))) | refine Cd.ol ?_)
 ·rename_i h
  show dyD _ = D.agg [.bool false, sl [], .int .i64 0]
  rw [sw]; unfold rto; rw [if_pos (jn.1 h)]
 ·rename_i h
  show dyD _ = dyD (grd _ _ _)
  unfold rto; rw [if_neg (fun e => h (jn.2 e))]
end Go.Ev.Ar

namespace Go.Ev
open Go
theorem ux (f e : Int) {E : Int} {S : Nat} (h : e = E + S) : dof f e = dof (f * 2 ^ S) E := by rw [gf, h]
theorem arv (q : Dyadic) (e : Int) : (∀ mode, grd q e mode = q) ∨
  (∃ (E f r : Int) (S : Nat), 0 < S ∧ e = E + S ∧ ar q = E ∧ q = dof (f * 2 ^ S + r) E ∧ 0 ≤ r ∧ r < 2 ^ S ∧ (q ≠ 0 → 0 < r) ∧ ∀ mode, grd q e mode = dof (if upB f r S mode then f + 1 else f) e) := by
 by_cases h : e ≤ ar q
 ·exact .inl fun mode => aun h
 ·refine .inr ⟨ar q, aj q / 2 ^ (e - ar q).toNat, aj q - aj q / 2 ^ (e - ar q).toNat * 2 ^ (e - ar q).toNat, (e - ar q).toNat, by omega, by omega, rfl, ?_, (u9 _ _).1, (u9 _ _).2, fun h0 => avz (akk h0) (by omega), fun mode => ?_⟩
  ·rw [show aj q / 2 ^ (e - ar q).toNat * 2 ^ (e - ar q).toNat + (aj q - aj q / 2 ^ (e - ar q).toNat * 2 ^ (e - ar q).toNat) = aj q by omega, br]
  ·unfold grd; rw [if_neg h]
theorem up0 (f r : Int) (S : Nat) : upB f r S 0 = false := by unfold upB; rw [if_pos rfl]
theorem up1 (f r : Int) (S : Nat) : upB f r S 1 = decide (0 < r) := by
 unfold upB; rw [if_neg (by decide), if_pos rfl]
 exact decide_eq_decide.2 (by show 0 < Int.sign r ↔ _; rw [Int.sign_pos_iff])
theorem up2 (f r : Int) (S : Nat) {mode : Int} (h0 : mode ≠ 0) (h1 : mode ≠ 1) : upB f r S mode = (decide (2 ^ S < r * 2) || (decide (r * 2 = 2 ^ S) && decide (f % 2 = 1))) := by
 unfold upB; rw [if_neg h0, if_neg h1]
 congr 1
 ·exact decide_eq_decide.2 (by show 0 < Int.sign _ ↔ _; rw [Int.sign_pos_iff]; omega)
 ·congr 1
  exact decide_eq_decide.2 (by rw [Int.sign_eq_zero_iff_zero]; omega)
theorem ab4 (q : Dyadic) (e : Int) : grd q e 0 ≤ q ∧ q ≤ grd q e 1 ∧ q - grd q e 0 < dof 1 e ∧ grd q e 1 - q < dof 1 e ∧ (grd q e 2 = grd q e 0 ∨ grd q e 2 = grd q e 1) ∧
  (q - grd q e 0 < grd q e 1 - q → grd q e 2 = grd q e 0) ∧ (grd q e 1 - q < q - grd q e 0 → grd q e 2 = grd q e 1) ∧ (grd q e 0 = q ↔ grd q e 0 = grd q e 1) ∧ (grd q e 0 ≠ q → grd q e 1 - grd q e 0 = dof 1 e) := by
 have h1e : 0 < dof 1 e := pc.2 (by decide)
 rcases arv q e with h | ⟨E, f, r, S, hS, he, hE, hq, hr0, hr1, hr2, h⟩
 ·rw [h, h, h]; grind
 ·have a0 := h 0
  have a1 := h 1
  have a2 := h 2
  rw [up0, if_neg (by decide), ux f e he] at a0
  rw [up1] at a1
  rw [up2 f r S (by decide) (by decide)] at a2
  rw [ux 1 e he, Int.one_mul]
  by_cases hz : r = 0
  ·have hq0 : q = 0 := Classical.byContradiction fun c => by have := hr2 c; omega
   have hp : (0 : Int) < 2 ^ S := Int.pow_pos (by decide)
   rw [decide_eq_false (by omega), if_neg (by decide), ux f e he] at a1
   rw [decide_eq_false (by omega), decide_eq_false (show ¬ r * 2 = 2 ^ S by omega), Bool.false_and, Bool.or_false, if_neg (by decide), ux f e he] at a2
   rw [hz, Int.add_zero] at hq
   rw [a0, a1, a2, hq]
   have hpp : 0 < dof (2 ^ S) E := pc.2 hp
   grind
  ·have hr3 : 0 < r := by omega
   rw [decide_eq_true hr3, if_pos rfl, ux (f + 1) e he, Int.add_mul, Int.one_mul] at a1
   rw [a0, a1]
   refine ⟨by rw [hq, aby]; omega, by rw [hq, aby]; omega, by rw [hq, pe, ml]; omega, by rw [hq, pe, ml]; omega, ?_, ?_, ?_, ?_, ?_⟩
   ·rw [a2]; split
    ·right; rw [ux (f + 1) e he, Int.add_mul, Int.one_mul]
    ·left; rw [ux f e he]
   ·intro h
    rw [hq, pe, pe, ml] at h
    rw [a2, decide_eq_false (by omega), decide_eq_false (show ¬ r * 2 = 2 ^ S by omega), Bool.false_and, Bool.or_false, if_neg (by decide), ux f e he]
   ·intro h
    rw [hq, pe, pe, ml] at h
    rw [a2, decide_eq_true (by omega), Bool.true_or, if_pos rfl, ux (f + 1) e he, Int.add_mul, Int.one_mul]
   ·rw [hq, aiy, aiy]; omega
   ·intro _; rw [pe]; congr 1; omega
end Go.Ev

namespace Go.Ev
open Go
theorem ya {a p q : Dyadic} (ha : 0 ≤ a) (h : p ≤ q) : a * p ≤ a * q := by
 rw [← Dyadic.toRat_le_toRat_iff, Dyadic.toRat_mul, Dyadic.toRat_mul]
 rw [← Dyadic.toRat_le_toRat_iff, Dyadic.toRat_zero] at ha
 rw [← Dyadic.toRat_le_toRat_iff] at h
 exact Rat.mul_le_mul_of_nonneg_left h ha
theorem apk {a p q : Dyadic} (ha : 0 < a) (h : p < q) : a * p < a * q := by
 have h1 := ya (show (0 : Dyadic) ≤ a by grind) (show p ≤ q by grind)
 rcases Classical.em (a * p = a * q) with e | e
 ·exfalso
  have h2 : a * (q - p) = 0 := by grind
  have h3 : aj a * aj (q - p) = 0 := by rw [← at6, h2]; rfl
  rcases Int.mul_eq_zero.1 h3 with h4 | h4
  ·have := fk.1 h4; grind
  ·have := fk.1 h4; grind
 ·grind
theorem ac7 {a p q : Dyadic} (ha : 0 < a) : a * p ≤ a * q ↔ p ≤ q := by
 constructor
 ·intro h
  rcases Classical.em (p ≤ q) with e | e
  ·exact e
  ·have := apk ha (show q < p by grind); grind
 ·exact ya (by grind)
theorem wx {a p q : Dyadic} (ha : 0 < a) : a * p < a * q ↔ p < q := by
 have := ac7 (p := q) (q := p) ha; grind
theorem aaq (m e f : Int) : dof m e = dof (m * 2 ^ (e - f).toNat) (e - (e - f).toNat) := by
 rw [gf]; congr 1; omega
theorem apm {m n e f : Int} : dof m e ≤ dof n f ↔ m * 2 ^ (e - f).toNat ≤ n * 2 ^ (f - e).toNat := by
 rw [aaq m e f, aaq n f e, show e - ((e - f).toNat : Int) = f - ((f - e).toNat : Int) by omega, aby]
theorem ayc {m n e f : Int} : dof m e < dof n f ↔ m * 2 ^ (e - f).toNat < n * 2 ^ (f - e).toNat := by
 rw [aaq m e f, aaq n f e, show e - ((e - f).toNat : Int) = f - ((f - e).toNat : Int) by omega, ml]
theorem sk (e : Int) : 0 < dof 1 e := pc.2 (by decide)
theorem apl {a b : Int} : dof 1 a ≤ dof 1 b ↔ a ≤ b := by
 constructor
 ·intro h
  rcases Int.lt_or_le b a with h1 | h1
  ·rw [apm, Int.one_mul, Int.one_mul, show (b - a).toNat = 0 by omega, Int.pow_zero] at h
   have h2 : (2 : Int) ^ 1 ≤ 2 ^ (a - b).toNat := by
    have := Nat.pow_le_pow_right (n := 2) (by decide) (show 1 ≤ (a - b).toNat by omega)
    exact_mod_cast this
   omega
  ·exact h1
 ·intro h
  rw [apm, Int.one_mul, Int.one_mul, show (a - b).toNat = 0 by omega, Int.pow_zero]
  have : (0 : Int) < 2 ^ (b - a).toNat := Int.pow_pos (by decide)
  omega
theorem ayb {a b : Int} : dof 1 a < dof 1 b ↔ a < b := by
 have := apl (a := b) (b := a)
 rw [← Int.not_le, ← this]; grind
theorem ae6 (a b : Int) : dof 1 a * dof 1 b = dof 1 (a + b) := by rw [o9]; rfl
theorem ax8 {q : Dyadic} (h : q ≠ 0) : 0 < ej q := by
 have := uw h; have := sk (db q); grind
theorem Ht.a1n {h : Nat} {q : Dyadic} (hq : Ht h q) : ej q < Go.Ev.dof 1 (h : Int) := by
 obtain ⟨n, h1, rfl⟩ := hq
 rw [atz, show (h : Int) = -(h : Int) + ((2 * h : Nat) : Int) by omega, ← gf, show -((-(h : Int) + ((2 * h : Nat) : Int) : Int)) = -(h : Int) by omega, ml, Int.one_mul]
 have h2 : n.natAbs < 2 ^ (2 * h) := Zt.iff.1 h1
 exact_mod_cast h2
theorem aas {h : Nat} {q : Dyadic} (hq : Ht h q) : -(h : Int) ≤ db q ∧ db q ≤ h := by
 refine ⟨(w6 hq).1, ?_⟩
 by_cases h0 : q = 0
 ·subst h0; show (0 : Int) ≤ h; omega
 ·have h1 := uw h0
  have h2 := hq.a1n
  have h3 : dof 1 (db q) < dof 1 (h : Int) := by grind
  rw [ayb] at h3; omega
def we (x y : Dyadic) : Int :=
 db x - db y - (if (aj x).natAbs * 2 ^ (-((nb (aj x).natAbs : Int) - nb (aj y).natAbs)).toNat < (aj y).natAbs * 2 ^ ((nb (aj x).natAbs : Int) - nb (aj y).natAbs).toNat then 1 else 0)
theorem ahz {x y : Dyadic} (hx : x ≠ 0) (hy : y ≠ 0) : ej y * dof 1 (we x y) ≤ ej x ∧ ej x < ej y * dof 1 (we x y + 1) := by
 have x1 := uw hx
 have x2 := vj hx
 have y1 := uw hy
 have y2 := vj hy
 have py := ax8 hy
 have hc : ((aj x).natAbs * 2 ^ (-((nb (aj x).natAbs : Int) - nb (aj y).natAbs)).toNat < (aj y).natAbs * 2 ^ ((nb (aj x).natAbs : Int) - nb (aj y).natAbs).toNat) ↔ ej x < ej y * dof 1 (db x - db y) := by
  have e : ej y * dof 1 (db x - db y) = dof (aj y).natAbs (ar x + ((nb (aj x).natAbs : Int) - nb (aj y).natAbs)) := by
   unfold ej
   rw [o9, Int.mul_one, aat hx, aat hy]; congr 1; omega
  rw [e]
  unfold ej
  rw [ayc, show ar x - (ar x + ((nb (aj x).natAbs : Int) - nb (aj y).natAbs)) = -((nb (aj x).natAbs : Int) - nb (aj y).natAbs) by omega, show ar x + ((nb (aj x).natAbs : Int) - nb (aj y).natAbs) - ar x = (nb (aj x).natAbs : Int) - nb (aj y).natAbs by omega]
  norm_cast
 unfold we
 split
 ·rename_i h
  have h := hc.1 h
  rw [show db x - db y - 1 + 1 = db x - db y by omega]
  refine ⟨?_, h⟩
  have h1 := apk (sk (db x - db y - 1)) y2
  rw [ae6, show db x - db y - 1 + (db y + 1) = db x by omega, Dyadic.mul_comm] at h1
  grind
 ·rename_i h
  have h := fun g => h (hc.2 g)
  rw [Int.sub_zero]
  refine ⟨by grind, ?_⟩
  have h1 := ya (show 0 ≤ dof 1 (db x - db y + 1) by have := sk (db x - db y + 1); grind) y1
  rw [ae6, show db x - db y + 1 + db y = db x + 1 by omega, Dyadic.mul_comm] at h1
  grind
def ig (x y : Dyadic) (p : Int) : Int := we x y - min (max p 1) 4000 + 1
def qA (x y : Dyadic) (p : Int) : Int := aj x * 2 ^ (ar x - ar y - ig x y p).toNat
def qB (x y : Dyadic) (p : Int) : Int := aj y * 2 ^ (-(ar x - ar y - ig x y p)).toNat
def po (x y : Dyadic) (p mode : Int) : Dyadic := dof (if mode = 1 ∧ ¬ qA x y p % qB x y p = 0 then qA x y p / qB x y p + 1 else qA x y p / qB x y p) (ig x y p)
def lg (x y : Dyadic) (p mode : Int) : Dyadic := if y = 0 then 0 else if x = 0 then 0 else if y < 0 then po (-x) (-y) p mode else po x y p mode
theorem qAB (x y : Dyadic) (p : Int) : ∃ g : Int, x = dof (qA x y p) g ∧ ∀ f : Int, y * dof f (ig x y p) = dof (qB x y p * f) g := by
  refine ⟨ar x - (ar x - ar y - ig x y p).toNat, ?_, fun f => ?_⟩
  · unfold qA; rw [gf, Int.sub_add_cancel, br]
  · have e : y = dof (qB x y p) (ar y - (-(ar x - ar y - ig x y p)).toNat) := by
      unfold qB; rw [gf, Int.sub_add_cancel, br]
    generalize hE : ig x y p = E at *
    generalize qB x y p = B at *
    have e2 : y * dof f E = dof B (ar y - (-(ar x - ar y - E)).toNat) * dof f E := congrArg (· * dof f E) e
    rw [e2, o9]
    congr 1; omega
theorem yp {x y : Dyadic} (p mode : Int) (hy : 0 < y) : ∃ f : Int, y * dof f (ig x y p) ≤ x ∧ x < y * dof (f + 1) (ig x y p) ∧ po x y p mode = if mode = 1 ∧ ¬ y * dof f (ig x y p) = x then dof (f + 1) (ig x y p) else dof f (ig x y p) := by
 obtain ⟨g, h1, h2⟩ := qAB x y p
 have hB : 0 < qB x y p := by unfold qB; exact Int.mul_pos (aap.2 hy) (Int.pow_pos (by decide))
 have h3 := Int.mul_ediv_add_emod (qA x y p) (qB x y p)
 have h4 := Int.emod_nonneg (qA x y p) (Int.ne_of_gt hB)
 have h5 := Int.emod_lt_of_pos (qA x y p) hB
 refine ⟨qA x y p / qB x y p, ?_, ?_, ?_⟩
 ·rw [h2]; conv => rhs; rw [h1]
  rw [aby]; omega
 ·rw [h2]; conv => lhs; rw [h1]
  rw [ml, Int.mul_add, Int.mul_one]; omega
 ·have e : (qA x y p % qB x y p = 0) ↔ y * dof (qA x y p / qB x y p) (ig x y p) = x := by
   rw [h2]; conv => rhs; rhs; rw [h1]
   rw [aiy]; omega
  unfold po
  by_cases c : mode = 1 ∧ ¬ qA x y p % qB x y p = 0
  ·rw [if_pos c, if_pos ⟨c.1, fun h => c.2 (e.2 h)⟩]
  ·rw [if_neg c, if_neg (fun h => c ⟨h.1, fun k => h.2 (e.1 k)⟩)]
theorem wv {p q : Dyadic} : ej p < q ↔ p < q ∧ -p < q := by rw [ix]; split <;> grind
theorem aec (P e : Int) (hP : 0 ≤ P) : dof (2 ^ P.toNat) e = dof 1 (e + P) := by
 have := gf 1 e P.toNat
 rw [Int.one_mul, show ((P.toNat : Nat) : Int) = P by omega] at this
 exact this
theorem aoh {x y : Dyadic} {p f : Int} (hx : x ≠ 0) (hy : 0 < y) (h1 : y * dof f (ig x y p) ≤ x) (h2 : x < y * dof (f + 1) (ig x y p)) :
  f < 2 ^ (min (max p 1) 4000).toNat ∧ -(2 ^ (min (max p 1) 4000).toNat : Int) ≤ f ∧ (0 < x → 2 ^ (min (max p 1) 4000 - 1).toNat ≤ f) ∧ (x < 0 → f ≤ -(2 ^ (min (max p 1) 4000 - 1).toNat : Int) ∧ (¬ y * dof f (ig x y p) = x → f + 1 ≤ -(2 ^ (min (max p 1) 4000 - 1).toNat : Int))) := by
 have hy0 : y ≠ 0 := by grind
 obtain ⟨a1, a2⟩ := ahz hx hy0
 have ey : ej y = y := by rw [ix, if_neg (by grind)]
 rw [ey] at a1 a2
 have e1 : dof (2 ^ (min (max p 1) 4000).toNat) (ig x y p) = dof 1 (we x y + 1) := by
  rw [aec _ _ (by omega)]; unfold ig; congr 1; omega
 have e2 : dof (2 ^ (min (max p 1) 4000 - 1).toNat) (ig x y p) = dof 1 (we x y) := by
  rw [aec _ _ (by omega)]; unfold ig; congr 1; omega
 rw [← e1] at a2
 rw [← e2] at a1
 generalize (2 : Int) ^ (min (max p 1) 4000).toNat = K at *
 generalize (2 : Int) ^ (min (max p 1) 4000 - 1).toNat = L at *
 obtain ⟨b1, b2⟩ := wv.1 a2
 refine ⟨?_, ?_, ?_, ?_⟩
 ·have h3 : y * dof f (ig x y p) < y * dof K (ig x y p) := by grind
  rwa [wx hy, ml] at h3
 ·have h3 : y * dof (-K) (ig x y p) < y * dof (f + 1) (ig x y p) := by
   rw [← n8]; grind
  rw [wx hy, ml] at h3; omega
 ·intro h
  rw [ix, if_neg (by grind)] at a1
  have h3 : y * dof L (ig x y p) < y * dof (f + 1) (ig x y p) := by grind
  rw [wx hy, ml] at h3; omega
 ·intro h
  rw [ix, if_pos h] at a1
  have h4 : x ≤ y * dof (-L) (ig x y p) := by rw [← n8]; grind
  have h3 : y * dof f (ig x y p) ≤ y * dof (-L) (ig x y p) := by grind
  rw [ac7 hy, aby] at h3
  refine ⟨h3, fun hn => ?_⟩
  rcases Classical.em (f = -L) with c | c
  ·rw [c] at h1 hn; exfalso; grind
  ·omega
theorem tu {x y : Dyadic} (p mode : Int) (hx : x ≠ 0) (hy : 0 < y) : lg x y p mode = po x y p mode := by
 unfold lg; rw [if_neg (by grind), if_neg hx, if_neg (by grind)]
theorem abe {x y : Dyadic} (p mode : Int) (hx : x ≠ 0) (hy : y < 0) : lg x y p mode = po (-x) (-y) p mode := by
 unfold lg; rw [if_neg (by grind), if_neg hx, if_pos hy]
theorem aqs {x y : Dyadic} (p : Int) (hy : 0 < y) : y * po x y p 0 ≤ x := by
 obtain ⟨f, h1, h2, h3⟩ := yp (x := x) p 0 hy
 rw [h3, if_neg (fun h => absurd h.1 (by decide))]; exact h1
theorem aqq {x y : Dyadic} (p : Int) (hy : 0 < y) : x ≤ y * po x y p 1 := by
 obtain ⟨f, h1, h2, h3⟩ := yp (x := x) p 1 hy
 rw [h3]
 by_cases c : y * dof f (ig x y p) = x
 ·rw [if_neg (fun h => h.2 c)]; grind
 ·rw [if_pos ⟨rfl, c⟩]; grind
theorem ahy {x y : Dyadic} (p mode : Int) (hy : 0 < y) : (0 < x → 0 < po x y p mode) ∧ (x < 0 → po x y p mode < 0) := by
 obtain ⟨f, h1, h2, h3⟩ := yp (x := x) p mode hy
 rw [h3]
 have hL : (0 : Int) < 2 ^ (min (max p 1) 4000 - 1).toNat := Int.pow_pos (by decide)
 constructor
 ·intro h
  obtain ⟨_, _, g, _⟩ := aoh (p := p) (by grind) hy h1 h2
  have g := g h
  split <;> (rw [pc]; omega)
 ·intro h
  obtain ⟨_, _, _, g⟩ := aoh (p := p) (by grind) hy h1 h2
  obtain ⟨g1, g2⟩ := g h
  split
  ·rename_i c
   have := g2 c.2
   rw [rh]; omega
  ·rw [rh]; omega
theorem ahv (y : Dyadic) (p mode : Int) : lg 0 y p mode = 0 := by
 unfold lg
 split
 ·rfl
 ·first | rfl | rw [if_pos rfl]
theorem aqn {x y : Dyadic} (p : Int) : (0 < y → y * lg x y p 0 ≤ x) ∧ (y < 0 → x ≤ y * lg x y p 0) := by
 by_cases hx : x = 0
 ·have e : lg x y p 0 = 0 := by rw [hx]; exact ahv y p 0
  rw [e, Dyadic.mul_zero, hx]; grind
 constructor
 ·intro h; rw [tu p 0 hx h]; exact aqs p h
 ·intro h; rw [abe p 0 hx h]; have := aqs (x := -x) p (show 0 < -y by grind); grind
theorem azr {x y : Dyadic} (p : Int) : (0 < y → x ≤ y * lg x y p 1) ∧ (y < 0 → y * lg x y p 1 ≤ x) := by
 by_cases hx : x = 0
 ·have e : lg x y p 1 = 0 := by rw [hx]; exact ahv y p 1
  rw [e, Dyadic.mul_zero, hx]; grind
 constructor
 ·intro h; rw [tu p 1 hx h]; exact aqq p h
 ·intro h; rw [abe p 1 hx h]; have := aqq (x := -x) p (show 0 < -y by grind); grind
theorem tv {x y : Dyadic} (p mode : Int) (hx : 0 < x) : (0 < y → 0 < lg x y p mode) ∧ (y < 0 → lg x y p mode < 0) := by
 constructor
 ·intro h; rw [tu p mode (by grind) h]; exact (ahy p mode h).1 hx
 ·intro h; rw [abe p mode (by grind) h]; exact (ahy p mode (show 0 < -y by grind)).2 (by grind)
theorem aqt {a b : Nat} {x y : Dyadic} (hx : Ht a x) (hy : Ht b y) : -(a + b + 1 : Int) ≤ we x y ∧ we x y ≤ a + b := by
 have h1 := aas hx
 have h2 := aas hy
 unfold we
 split <;> omega
theorem y7 {k : Nat} {f : Int} (h1 : f ≤ 2 ^ k) (h2 : -(2 ^ k : Int) ≤ f) : Zt (k + 1) f := by
 rw [Zt.iff]
 have e : (2 : Nat) ^ (k + 1) = 2 ^ k + 2 ^ k := by rw [Nat.pow_succ]; omega
 have h3 : 0 < 2 ^ k := Nat.pow_pos (by decide)
 have h4 : (2 : Int) ^ k = ((2 ^ k : Nat) : Int) := by rw [Int.natCast_pow]; rfl
 rw [h4] at h1 h2
 omega
theorem aqr {a b K : Nat} {x y : Dyadic} {p : Int} (mode : Int) (hx0 : x ≠ 0) (hy0 : 0 < y) (hx : Ht a x) (hy : Ht b y) (hp : min (max p 1) 4000 ≤ K) : Ht (a + b + 2 * K + 3) (po x y p mode) := by
 obtain ⟨f, h1, h2, h3⟩ := yp (x := x) p mode hy0
 obtain ⟨g1, g2, _, _⟩ := aoh (p := p) hx0 hy0 h1 h2
 obtain ⟨t1, t2⟩ := aqt hx hy
 have he : -((a + b + K + 1 : Nat) : Int) ≤ ig x y p ∧ ig x y p ≤ ((a + b + K + 1 : Nat) : Int) := by unfold ig; omega
 have hK : (min (max p 1) 4000).toNat + 1 ≤ K + 1 := by omega
 rw [h3]
 split
 ·exact Ht.dof ((y7 (by omega) (by omega)).mono hK) he.1 he.2 (by omega)
 ·exact Ht.dof ((y7 (by omega) (by omega)).mono hK) he.1 he.2 (by omega)
theorem aqm {a b K : Nat} {x y : Dyadic} {p : Int} (mode : Int) (hx : Ht a x) (hy : Ht b y) (hp : min (max p 1) 4000 ≤ K) : Ht (a + b + 2 * K + 3) (lg x y p mode) := by
 unfold lg
 split
 ·exact .zero _
 ·split
  ·exact .zero _
  ·split
   ·exact aqr mode (by grind) (by grind) hx.neg hy.neg hp
   ·exact aqr mode (by grind) (by grind) hx hy hp
theorem ai4 (q : Dyadic) (e mode : Int) : ∃ k : Int, grd q e mode = dof k e := by
 unfold grd
 split
 ·rename_i h
  refine ⟨aj q * 2 ^ (ar q - e).toNat, ?_⟩
  rw [gf, show e + ((ar q - e).toNat : Int) = ar q by omega, br]
 ·exact ⟨_, rfl⟩
theorem wy (f e : Int) : dof (f + 1) e = dof f e + dof 1 e := (ad5 f 1 e).symm
end Go.Ev

namespace Go.Ev
open Go
theorem auy {z : Cq} (h : Ord z) : j5 z z.1 := by unfold Ord at h; unfold j5; grind
theorem ayo {z w : Cq} {d : Dyadic} (h : iin z w) (k : j5 z d) : j5 w d := by unfold iin at h; unfold j5 at *; grind
theorem aaz {z : Cq} {d : Dyadic} (h : j5 z d) : Ord z := by unfold j5 at h; unfold Ord; grind
theorem auw {z : Cq} {a : Dyadic} (h : j5 z a) : j5 (r8 z) (ej a) := by
 rw [ai9 (aaz h)]
 obtain ⟨h1, h2⟩ := h
 rw [ix]
 unfold j5 oz mx
 split
 ·split <;> grind
 ·split
  ·split <;> dsimp only <;> grind
  ·split <;> dsimp only <;> grind
theorem ri {a : Dyadic} (h : 0 ≤ a) : ∀ n : Nat, 0 ≤ a ^ n
 | 0 => by rw [Dyadic.pow_zero]; decide
 | n + 1 => by
  rw [Dyadic.pow_succ]
  have := ya (ri h n) h
  rwa [Dyadic.mul_zero] at this
theorem su {a b : Dyadic} (h : 0 ≤ a) (k : a ≤ b) : ∀ n : Nat, a ^ n ≤ b ^ n
 | 0 => by rw [Dyadic.pow_zero, Dyadic.pow_zero]; grind
 | n + 1 => by
  rw [Dyadic.pow_succ, Dyadic.pow_succ]
  have h1 := ya (ri h n) k
  have h2 := ya (show 0 ≤ b by grind) (su h k n)
  rw [Dyadic.mul_comm b, Dyadic.mul_comm b] at h2
  grind
theorem aar (a : Dyadic) : ∀ n : Nat, (-a) ^ (2 * n) = a ^ (2 * n) ∧ (-a) ^ (2 * n + 1) = -a ^ (2 * n + 1)
 | 0 => by rw [Nat.mul_zero, Dyadic.pow_succ, Dyadic.pow_succ, Dyadic.pow_zero, Dyadic.pow_zero]; grind
 | n + 1 => by
  obtain ⟨h1, h2⟩ := aar a n
  have e : ∀ b : Dyadic, b ^ (2 * (n + 1)) = b ^ (2 * n + 1) * b := fun b => by rw [← Dyadic.pow_succ]; congr 1
  have h3 : (-a) ^ (2 * (n + 1)) = a ^ (2 * (n + 1)) := by rw [e, e, h2]; grind
  refine ⟨h3, ?_⟩
  rw [Dyadic.pow_succ, Dyadic.pow_succ, h3]; grind
theorem arn (a : Dyadic) {n : Nat} (h : n % 2 = 0) : ej a ^ n = a ^ n := by
 rw [ix]; split
 ·have := (aar a (n / 2)).1
  rwa [show 2 * (n / 2) = n by omega] at this
 ·rfl
theorem y9 {a b : Dyadic} (k : a ≤ b) {n : Nat} (h : n % 2 = 1) : a ^ n ≤ b ^ n := by
 have e1 := (aar a (n / 2)).2
 have e2 := (aar b (n / 2)).2
 rw [show 2 * (n / 2) + 1 = n by omega] at e1 e2
 rcases Classical.em (0 ≤ a) with h1 | h1
 ·exact su h1 k n
 ·rcases Classical.em (b ≤ 0) with h2 | h2
  ·have := su (show 0 ≤ -b by grind) (show -b ≤ -a by grind) n
   rw [e1, e2] at this; grind
  ·have h3 := ri (show 0 ≤ -a by grind) n
   have h4 := ri (show 0 ≤ b by grind) n
   rw [e1] at h3; grind
theorem auz {z : Cq} {a : Dyadic} (n : Int) (h : j5 z a) : j5 (ib z n) (a ^ kq n) := by
 unfold ib
 split
 ·rename_i h2
  obtain ⟨h3, h4⟩ := auw h
  rw [← arn a h2]
  exact ⟨su (apy (aaz h)) h3 _, su at0 h4 _⟩
 ·rename_i h2
  exact ⟨y9 h.1 (by omega), y9 h.2 (by omega)⟩
theorem oq {z : Cq} (n : Int) (h : Ord z) : Ord (ib z n) := aaz (auz n (auy h))
def oy (z : Cq) (p : Int) : Cq := (lg 1 z.2 p 0, lg 1 z.1 p 1)
theorem one_pos : (0 : Dyadic) < 1 := by decide
theorem ahf {z : Cq} (p : Int) (ho : Ord z) (h : ¬ j5 z 0) : (0 < z.1 ∧ 0 < z.2 ∧ 0 < (oy z p).1 ∧ 0 < (oy z p).2) ∨ (z.1 < 0 ∧ z.2 < 0 ∧ (oy z p).1 < 0 ∧ (oy z p).2 < 0) := by
 unfold Ord at ho
 unfold j5 at h
 rcases Classical.em (0 < z.1) with c | c
 ·have c2 : 0 < z.2 := by grind
  exact .inl ⟨c, c2, (tv p 0 one_pos).1 c2, (tv p 1 one_pos).1 c⟩
 ·have c2 : z.2 < 0 := by grind
  have c1 : z.1 < 0 := by grind
  exact .inr ⟨c1, c2, (tv p 0 one_pos).2 c2, (tv p 1 one_pos).2 c1⟩
end Go.Ev
