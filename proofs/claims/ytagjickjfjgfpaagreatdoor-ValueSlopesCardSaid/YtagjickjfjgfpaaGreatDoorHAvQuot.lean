/- Contracts of the given functions, on data. Conditions stand in each theorem. -/
import Derived.Test.YtagjickjfjgfpaaGreatDoorHEvR
import Derived.Test.YtagjickjfjgfpaaGreatDoorHAvWDiv
import Derived.Test.YtagjickjfjgfpaaGreatDoorHAvDyL
import Derived.Test.YtagjickjfjgfpaaGreatDoorHAvRefA
set_option linter.unusedSimpArgs false
set_option linter.unusedVariables false
namespace Go.Ev.Ar
open Go Go.Ev Go.Proofs
theorem amx {k : Nat} {n : Int} (hl : (ofN k).length < 2^32) (h : (nb k : Int) = n) : Sim Tryz.prog G0 true 195 [sl (ofN k)] (.int .i64 n) := by
 have s := afm (ofN k) hl
 rwa [aw, h] at s
theorem axu {k j : Nat} (n : Int) (hl : (ofN k).length < 2^30) (hn : n ≤ 2^30) (h : k * 2 ^ n.toNat = j) : Sim Tryz.prog G0 false 216 [sl (ofN k), .int .i64 n] (sl (ofN j)) := by
 have s := alh (ofN k) n hl hn
 rwa [aw, h] at s
theorem a02 {a b : Nat} {s : Int} (ha : (ofN a).length < 2^32) (hb : (ofN b).length < 2^32) (h : u5 a b = s) : Sim Tryz.prog G0 true 225 [sl (ofN a), sl (ofN b)] (.int .i64 s) := by
 have s := ael (ofN a) (ofN b) ha hb
 rwa [aw, aw, h] at s
theorem ayb {x : D} {m : Int} {r : Dyadic} (exact : Bool) (e mode : Int) (hx : ZR x m) (hm : Zt 134000000 m) (h1 : -1099511627776 ≤ e) (h2 : e ≤ 1099511627776) (h : dof (if mode = 1 ∧ exact = false then m + 1 else m) e = r) : Sim Tryz.prog G0 false 227 [x, .bool exact, .int .i64 e, .int .i64 mode] (dyD r) := by
 have hm1 : Zt 134217728 (m + 1) := hm.add (Zt.small (n := 1) (h := 64) (by decide) (by decide)) (by decide)
 have hz := hx
 obtain ⟨b, l, hl⟩ := hx
 refine ao af Tryz.func227 ?_
 by_cases c : mode = 1
 ·cases exact
  ·rw [if_pos ⟨c, rfl⟩] at h
   repeat' ((conv => whnf); first | refine rgE ?_ | refine Cd.mk rfl ?_)
   refine aoc af 0 rfl [2, 4, 8] [4, 8] (fun m xs h => m = 0 ∧ xs = [.d (.int .i64 e), .ptr 4 0, .ptr 8 0] ∧ h = [(8, false, zeA), (4, false, [.d (.bool b), .d (sl l)])]) ?_ ?_
   ·repeat' ((conv => whnf); first | with_reducible refine Br.bt fun _ => ?_ | refine rgE ?_ | refine Cd.mk rfl ?_ | refine Br.t ?_)
    exact ⟨_, _, _, ⟨.inl rfl, rfl, rfl, by first | rfl | (repeat first | exact all_nil _ | refine bm _ _ _ _ _ ?_)⟩, rfl, rfl, rfl⟩
   ·rintro m xs h ⟨rfl, rfl, rfl⟩
    repeat' ((conv => whnf); first | refine aa.mk _ _ (zh 1 (by decide) (by decide)) ?_ | refine aa.mk _ _ (yh hz (cz (n := 1) (by decide)).1) ?_ | refine aa.mk _ _ (acm (.of hm1) hm1 h1 h2 h) ?_ | refine rgE ?_ | refine Cd.mk rfl ?_ | (refine TkE.fL ?_; (conv => whnf); fail_if_success (show ae _ _)) | refine Res.mk ?_ | ((with_reducible refine EqE.idS ?_); (refine EqE.fP ?_; (conv => whnf); fail_if_success (show ae _ _))) | refine Cd.ol ?_)
    rfl
  ·rw [if_neg (fun g => absurd g.2 (by decide))] at h
   repeat' ((conv => whnf); first | refine rgE ?_ | refine Cd.mk rfl ?_)
   refine ado af ?_
   repeat' ((conv => whnf); first | with_reducible refine ag.data ?_ | with_reducible refine Br.bt fun _ => ?_ | refine aa.mk _ _ (acm hz (hm.mono (by decide)) h1 h2 h) ?_ | refine rgE ?_ | refine Cd.mk rfl ?_ | refine Br.t ?_ | refine Br.f ?_ | (refine TkE.fL ?_; (conv => whnf); fail_if_success (show ae _ _)) | refine Res.mk ?_ | ((with_reducible refine EqE.idS ?_); (refine EqE.fP ?_; (conv => whnf); fail_if_success (show ae _ _))) | refine Cd.ol ?_)
   rfl
 ·rw [if_neg (fun g => c g.1)] at h
  repeat' ((conv => whnf); first | refine rgE ?_ | refine Cd.mk rfl ?_)
  refine ado af ?_
  repeat' ((conv => whnf); first | with_reducible refine ag.data ?_ | with_reducible refine Br.bf fun _ => ?_ | refine aa.mk _ _ (acm hz (hm.mono (by decide)) h1 h2 h) ?_ | refine rgE ?_ | refine Cd.mk rfl ?_ | refine Br.f ?_ | (refine TkE.fL ?_; (conv => whnf); fail_if_success (show ae _ _)) | refine Res.mk ?_ | ((with_reducible refine EqE.idS ?_); (refine EqE.fP ?_; (conv => whnf); fail_if_success (show ae _ _))) | refine Cd.ol ?_)
  rfl
structure QC (X Y : Dyadic) (P mode T : Int) : Prop where
 t1 : Sim Tryz.prog G0 true 212 [dyD X] (.int .i64 (db X))
 t2 : Sim Tryz.prog G0 true 212 [dyD Y] (.int .i64 (db Y))
 b1 : Sim Tryz.prog G0 true 195 [sl (ofN (ak X).natAbs)] (.int .i64 (nb (ak X).natAbs))
 b2 : Sim Tryz.prog G0 true 195 [sl (ofN (ak Y).natAbs)] (.int .i64 (nb (ak Y).natAbs))
 u1 : Sim Tryz.prog G0 false 216 [sl (ofN (ak X).natAbs), .int .i64 (0 - ((nb (ak X).natAbs : Int) - nb (ak Y).natAbs))] (sl (ofN ((ak X).natAbs * 2 ^ (-((nb (ak X).natAbs : Int) - nb (ak Y).natAbs)).toNat)))
 u2 : Sim Tryz.prog G0 false 216 [sl (ofN (ak Y).natAbs), .int .i64 ((nb (ak X).natAbs : Int) - nb (ak Y).natAbs)] (sl (ofN ((ak Y).natAbs * 2 ^ ((nb (ak X).natAbs : Int) - nb (ak Y).natAbs).toNat)))
 cm : Sim Tryz.prog G0 true 225 [sl (ofN ((ak X).natAbs * 2 ^ (-((nb (ak X).natAbs : Int) - nb (ak Y).natAbs)).toNat)), sl (ofN ((ak Y).natAbs * 2 ^ ((nb (ak X).natAbs : Int) - nb (ak Y).natAbs).toNat))] (.int .i64 (u5 ((ak X).natAbs * 2 ^ (-((nb (ak X).natAbs : Int) - nb (ak Y).natAbs)).toNat) ((ak Y).natAbs * 2 ^ ((nb (ak X).natAbs : Int) - nb (ak Y).natAbs).toNat)))
 v1 : Sim Tryz.prog G0 false 186 [zD (ak X), .int .i64 (av X - av Y - (T - min (max P 1) 4000 + 1))] (zD (qA X Y P))
 v2 : Sim Tryz.prog G0 false 186 [zD (ak Y), .int .i64 (0 - (av X - av Y - (T - min (max P 1) 4000 + 1)))] (zD (qB X Y P))
 dv : Sim Tryz.prog G0 false 226 [zD (qA X Y P), zD (qB X Y P)] (.tup [zD (qA X Y P / qB X Y P), zD (qA X Y P % qB X Y P), .bool true])
 sg : Sim Tryz.prog G0 true 207 [zD (qA X Y P % qB X Y P)] (.int .i64 (Int.sign (qA X Y P % qB X Y P)))
 td : Sim Tryz.prog G0 false 227 [zD (qA X Y P / qB X Y P), .bool (decide (Int.sign (qA X Y P % qB X Y P) = 0)), .int .i64 (T - min (max P 1) 4000 + 1), .int .i64 mode] (dyD (q8 X Y P mode))
 r1 : -100000 ≤ db X ∧ db X ≤ 100000
 r2 : -100000 ≤ db Y ∧ db Y ≤ 100000
 r3 : nb (ak X).natAbs ≤ 200000
 r4 : nb (ak Y).natAbs ≤ 200000
 r5 : -100000 ≤ av X ∧ av X ≤ 100000
 r6 : -100000 ≤ av Y ∧ av Y ≤ 100000
theorem QC.of {X Y : Dyadic} {P mode T : Int} (hX : Ht 100000 X) (hY : Ht 100000 Y) (h0 : X ≠ 0) (hpos : 0 < Y) (hT : wy X Y = T) : QC X Y P mode T := by
 obtain ⟨x1, x2, x3⟩ := hX.parts
 obtain ⟨y1, y2, y3⟩ := hY.parts
 have tx := aa9 hX
 have ty := aa9 hY
 have tt := asw hX hY
 have lx := x1.len (k := 6250) (by decide)
 have ly := y1.len (k := 6250) (by decide)
 have nx := x1.nb
 have ny := y1.nb
 have hE : iu X Y P = T - min (max P 1) 4000 + 1 := by unfold iu; rw [hT]
 have eA : ak X * 2 ^ (av X - av Y - (T - min (max P 1) 4000 + 1)).toNat = qA X Y P := by unfold qA; rw [hE]
 have eB : ak Y * 2 ^ (-(av X - av Y - (T - min (max P 1) 4000 + 1))).toNat = qB X Y P := by unfold qB; rw [hE]
 have zA : Zt 900000 (qA X Y P) := eA ▸ x1.shl (by omega)
 have zB : Zt 900000 (qB X Y P) := eB ▸ y1.shl (by omega)
 have pB : 0 < qB X Y P := by unfold qB; exact Int.mul_pos (aa6.2 hpos) (Int.pow_pos (by decide))
 have zq : Zt 900000 (qA X Y P / qB X Y P) := zA.le (Int.natAbs_ediv_le_natAbs _ _)
 have zr : Zt 900000 (qA X Y P % qB X Y P) := zB.le (by have := Int.emod_nonneg (qA X Y P) (Int.ne_of_gt pB); have := Int.emod_lt_of_pos (qA X Y P) pB; omega)
 have l1 : (ofN ((ak X).natAbs * 2 ^ (-((nb (ak X).natAbs : Int) - nb (ak Y).natAbs)).toNat)).length ≤ 20000 := by
  have h : Zt 400000 (ak X * 2 ^ (-((nb (ak X).natAbs : Int) - nb (ak Y).natAbs)).toNat) := x1.shl (by omega)
  have h2 := h.len (k := 20000) (by decide)
  rwa [Int.natAbs_mul, Int.natAbs_pow] at h2
 have l2 : (ofN ((ak Y).natAbs * 2 ^ ((nb (ak X).natAbs : Int) - nb (ak Y).natAbs).toNat)).length ≤ 20000 := by
  have h : Zt 400000 (ak Y * 2 ^ ((nb (ak X).natAbs : Int) - nb (ak Y).natAbs).toNat) := y1.shl (by omega)
  have h2 := h.len (k := 20000) (by decide)
  rwa [Int.natAbs_mul, Int.natAbs_pow] at h2
 refine ⟨afx (.of (hX.mono (by decide))), afx (.of (hY.mono (by decide))), amx (by omega) rfl, amx (by omega) rfl, axu _ (by omega) (by omega) (by rw [Int.zero_sub]), axu _ (by omega) (by omega) rfl, a02 (by omega) (by omega) rfl, ?_, ?_, ?_, ?_, ?_, by omega, by omega, by omega, by omega, by omega, by omega⟩
 ·rw [← eA]; exact wa _ (.of (x1.mono (by decide))) (by omega)
 ·rw [← eB, Int.zero_sub]; exact wa _ (.of (y1.mono (by decide))) (by omega)
 ·exact azn (.of (zA.mono (by decide))) (.of (zB.mono (by decide))) pB (zA.mono (by decide)) (zB.mono (by decide))
 ·exact ux (.of (zr.mono (by decide)))
 ·refine ayb _ _ _ (.of (zq.mono (by decide))) (zq.mono (by decide)) (by omega) (by omega) ?_
  unfold q8
  rw [hE]
  congr 1
  by_cases c : qA X Y P % qB X Y P = 0
  ·rw [if_neg (fun g => absurd g.2 (by rw [c]; decide)), if_neg (fun g => g.2 c)]
  ·have e : decide (Int.sign (qA X Y P % qB X Y P) = 0) = false := decide_eq_false (fun g => c (Int.sign_eq_zero_iff_zero.1 g))
   rw [e]
   by_cases c2 : mode = 1
   ·rw [if_pos ⟨c2, rfl⟩, if_pos ⟨c2, c⟩]
   ·rw [if_neg (fun g => c2 g.1), if_neg (fun g => c2 g.1)]
theorem mc {a b : Nat} : u5 a b < 0 ↔ a < b := by unfold u5; split <;> (try split) <;> omega
set_option maxHeartbeats 4000000 in
theorem asq {x y : D} {p q r : Dyadic} {c : Int} (P mode : Int) (hx : DyR x p) (hy : DyR y q) (hp : Ht 100000 p) (hq : Ht 100000 q) (h : nt p q P mode = r) (hc : (if q = 0 then 11 else 0) = c) :
  Sim Tryz.prog G0 false 205 [x, y, .int .i64 P, .int .i64 mode] (.tup [dyD r, .int .i64 c]) := by
 have kx := hx
 have ky := hy
 have sp := gi (.of (hp.mono (show 100000 ≤ 1048576 by decide)))
 have sq := gi (.of (hq.mono (show 100000 ≤ 1048576 by decide)))
 have np := qt (.of (hp.mono (show 100000 ≤ 1048576 by decide)))
 have nq := qt (.of (hq.mono (show 100000 ≤ 1048576 by decide)))
 obtain ⟨b, l, e, hl, h1, h2, _⟩ := hx
 obtain ⟨d, k, f, hk, h3, h4, _⟩ := hy
 generalize dof (zv b l) e = p at *
 generalize dof (zv d k) f = q at *
 by_cases q0 : q = 0
 ·have e1 : nt p q P mode = 0 := by unfold nt; rw [if_pos q0]
  rw [if_pos q0] at hc
  have sq0 := jj.2 q0
  rw [sq0] at sq
  refine ao af Tryz.func205 ?_
  repeat' ((conv => whnf); first | with_reducible refine ag.data ?_ | refine aa.mk _ _ (df kx) ?_ | refine aa.mk _ _ (df ky) ?_ | refine aa.mk _ _ (sq) ?_ | refine rgE ?_ | refine Cd.mk rfl ?_ | refine Br.t ?_ | (refine TkE.fL ?_; (conv => whnf); fail_if_success (show ae _ _)) | refine Res.mk ?_ | ((with_reducible refine EqE.idS ?_); (refine EqE.fP ?_; (conv => whnf); fail_if_success (show ae _ _))) | refine Cd.ol ?_)
  rw [← h, e1, ← hc, ← tq]; rfl
 by_cases p0 : p = 0
 ·have e1 : nt p q P mode = 0 := by unfold nt; rw [if_neg q0, if_pos p0]
  rw [if_neg q0] at hc
  have sp0 := jj.2 p0
  have sq0 : dsg q ≠ 0 := fun g => q0 (jj.1 g)
  rw [sp0] at sp
  refine ao af Tryz.func205 ?_
  repeat' ((conv => whnf); first | with_reducible refine ag.data ?_ | with_reducible refine Br.bf fun _ => ?_ | refine aa.mk _ _ (df kx) ?_ | refine aa.mk _ _ (df ky) ?_ | refine aa.mk _ _ (sp) ?_ | refine aa.mk _ _ (sq) ?_ | refine rgE ?_ | refine Cd.mk rfl ?_ | refine Br.t ?_ | (refine TkE.fL ?_; (conv => whnf); fail_if_success (show ae _ _)) | refine Res.mk ?_ | ((with_reducible refine EqE.idS ?_); (refine EqE.fP ?_; (conv => whnf); fail_if_success (show ae _ _))) | refine Cd.ol ?_)
  rw [← h, e1, ← hc, ← tq]; rfl
 have sp0 : dsg p ≠ 0 := fun g => p0 (jj.1 g)
 have sq0 : dsg q ≠ 0 := fun g => q0 (jj.1 g)
 rw [if_neg q0] at hc
 rcases Classical.em (q < 0) with hqn | hqn
 ·have zn : a7 (ak q) = true := decide_eq_true (j5.2 hqn)
  rw [ag0 P mode p0 hqn] at h
  subst h
  by_cases c : (ak (-p)).natAbs * 2 ^ (-((nb (ak (-p)).natAbs : Int) - nb (ak (-q)).natAbs)).toNat < (ak (-q)).natAbs * 2 ^ ((nb (ak (-p)).natAbs : Int) - nb (ak (-q)).natAbs).toNat
  ·have Q : QC (-p) (-q) P mode (db (-p) - db (-q) - 1) := QC.of (hp.neg) (hq.neg) (fun g => p0 (by grind)) (show 0 < -q by grind) (by unfold wy; rw [if_pos c])
   have cc := mc.2 c
   obtain ⟨t1, t2, b1, b2, u1, u2, cm, v1, v2, dv, sg, td, r1, r2, r3, r4, r5, r6⟩ := Q
   generalize q8 (-p) (-q) P mode = r at *
   generalize qA (-p) (-q) P / qB (-p) (-q) P = A at *
   generalize qA (-p) (-q) P % qB (-p) (-q) P = B at *
   refine ao af Tryz.func205 ?_
   repeat' ((conv => whnf); first | with_reducible refine ag.data ?_ | with_reducible refine Br.bf fun _ => ?_ | with_reducible refine Br.bt fun _ => ?_ | refine Br.mk (fun _ => ?_) (fun g => absurd (zn.symm.trans g) (by decide)) | refine aa.mk _ _ (df kx) ?_ | refine aa.mk _ _ (df ky) ?_ | refine aa.mk _ _ (sp) ?_ | refine aa.mk _ _ (sq) ?_ | refine aa.mk _ _ (np) ?_ | refine aa.mk _ _ (nq) ?_ | refine aa.mk _ _ (t1) ?_ | refine aa.mk _ _ (t2) ?_ | refine aa.mk _ _ (b1) ?_ | refine aa.mk _ _ (b2) ?_ | refine aa.mk _ _ (u1) ?_ | refine aa.mk _ _ (u2) ?_ | refine aa.mk _ _ (cm) ?_ | refine aa.mk _ _ (rb _) ?_ | refine aa.mk _ _ (v1) ?_ | refine aa.mk _ _ (v2) ?_ | refine aa.mk _ _ (dv) ?_ | refine aa.mk _ _ (sg) ?_ | refine aa.mk _ _ (td) ?_ | refine rgE ?_ | refine Cd.mk rfl ?_ | refine ah.mk _ rfl ?_ | (refine TkE.fL ?_; (conv => whnf); fail_if_success (show ae _ _)) | refine Res.mk ?_ | ((with_reducible refine EqE.idW ?_); refine EqE.mk _ (aj (by omega) (by omega)) ?_) | ((with_reducible refine EqE.idS ?_); (refine EqE.fP ?_; (conv => whnf); fail_if_success (show ae _ _))) | refine Cd.ol ?_)
   rw [← hc]; rfl
  ·have Q : QC (-p) (-q) P mode (db (-p) - db (-q)) := QC.of (hp.neg) (hq.neg) (fun g => p0 (by grind)) (show 0 < -q by grind) (by unfold wy; rw [if_neg c, Int.sub_zero])
   have cc := fun g => c (mc.1 g)
   obtain ⟨t1, t2, b1, b2, u1, u2, cm, v1, v2, dv, sg, td, r1, r2, r3, r4, r5, r6⟩ := Q
   generalize q8 (-p) (-q) P mode = r at *
   generalize qA (-p) (-q) P / qB (-p) (-q) P = A at *
   generalize qA (-p) (-q) P % qB (-p) (-q) P = B at *
   refine ao af Tryz.func205 ?_
   repeat' ((conv => whnf); first | with_reducible refine ag.data ?_ | with_reducible refine Br.bf fun _ => ?_ | refine Br.mk (fun _ => ?_) (fun g => absurd (zn.symm.trans g) (by decide)) | refine aa.mk _ _ (df kx) ?_ | refine aa.mk _ _ (df ky) ?_ | refine aa.mk _ _ (sp) ?_ | refine aa.mk _ _ (sq) ?_ | refine aa.mk _ _ (np) ?_ | refine aa.mk _ _ (nq) ?_ | refine aa.mk _ _ (t1) ?_ | refine aa.mk _ _ (t2) ?_ | refine aa.mk _ _ (b1) ?_ | refine aa.mk _ _ (b2) ?_ | refine aa.mk _ _ (u1) ?_ | refine aa.mk _ _ (u2) ?_ | refine aa.mk _ _ (cm) ?_ | refine aa.mk _ _ (rb _) ?_ | refine aa.mk _ _ (v1) ?_ | refine aa.mk _ _ (v2) ?_ | refine aa.mk _ _ (dv) ?_ | refine aa.mk _ _ (sg) ?_ | refine aa.mk _ _ (td) ?_ | refine rgE ?_ | refine Cd.mk rfl ?_ | refine ah.mk _ rfl ?_ | (refine TkE.fL ?_; (conv => whnf); fail_if_success (show ae _ _)) | refine Res.mk ?_ | ((with_reducible refine EqE.idW ?_); refine EqE.mk _ (aj (by omega) (by omega)) ?_) | ((with_reducible refine EqE.idS ?_); (refine EqE.fP ?_; (conv => whnf); fail_if_success (show ae _ _))) | refine Cd.ol ?_)
   rw [← hc]; rfl
 ·have hq1 : 0 < q := by grind
  have zn : a7 (ak q) = false := decide_eq_false (fun g => hqn (j5.1 g))
  rw [xy P mode p0 hq1] at h
  subst h
  by_cases c : (ak p).natAbs * 2 ^ (-((nb (ak p).natAbs : Int) - nb (ak q).natAbs)).toNat < (ak q).natAbs * 2 ^ ((nb (ak p).natAbs : Int) - nb (ak q).natAbs).toNat
  ·have Q : QC p q P mode (db p - db q - 1) := QC.of (hp) (hq) (p0) (hq1) (by unfold wy; rw [if_pos c])
   have cc := mc.2 c
   obtain ⟨t1, t2, b1, b2, u1, u2, cm, v1, v2, dv, sg, td, r1, r2, r3, r4, r5, r6⟩ := Q
   generalize q8 p q P mode = r at *
   generalize qA p q P / qB p q P = A at *
   generalize qA p q P % qB p q P = B at *
   refine ao af Tryz.func205 ?_
   repeat' ((conv => whnf); first | with_reducible refine ag.data ?_ | with_reducible refine Br.bf fun _ => ?_ | with_reducible refine Br.bt fun _ => ?_ | refine Br.mk (fun g => absurd (zn.symm.trans g) (by decide)) (fun _ => ?_) | refine aa.mk _ _ (df kx) ?_ | refine aa.mk _ _ (df ky) ?_ | refine aa.mk _ _ (sp) ?_ | refine aa.mk _ _ (sq) ?_ | refine aa.mk _ _ (t1) ?_ | refine aa.mk _ _ (t2) ?_ | refine aa.mk _ _ (b1) ?_ | refine aa.mk _ _ (b2) ?_ | refine aa.mk _ _ (u1) ?_ | refine aa.mk _ _ (u2) ?_ | refine aa.mk _ _ (cm) ?_ | refine aa.mk _ _ (rb _) ?_ | refine aa.mk _ _ (v1) ?_ | refine aa.mk _ _ (v2) ?_ | refine aa.mk _ _ (dv) ?_ | refine aa.mk _ _ (sg) ?_ | refine aa.mk _ _ (td) ?_ | refine rgE ?_ | refine Cd.mk rfl ?_ | refine ah.mk _ rfl ?_ | (refine TkE.fL ?_; (conv => whnf); fail_if_success (show ae _ _)) | refine Res.mk ?_ | ((with_reducible refine EqE.idW ?_); refine EqE.mk _ (aj (by omega) (by omega)) ?_) | ((with_reducible refine EqE.idS ?_); (refine EqE.fP ?_; (conv => whnf); fail_if_success (show ae _ _))) | refine Cd.ol ?_)
   rw [← hc]; rfl
  ·have Q : QC p q P mode (db p - db q) := QC.of (hp) (hq) (p0) (hq1) (by unfold wy; rw [if_neg c, Int.sub_zero])
   have cc := fun g => c (mc.1 g)
   obtain ⟨t1, t2, b1, b2, u1, u2, cm, v1, v2, dv, sg, td, r1, r2, r3, r4, r5, r6⟩ := Q
   generalize q8 p q P mode = r at *
   generalize qA p q P / qB p q P = A at *
   generalize qA p q P % qB p q P = B at *
   refine ao af Tryz.func205 ?_
   repeat' ((conv => whnf); first | with_reducible refine ag.data ?_ | with_reducible refine Br.bf fun _ => ?_ | refine Br.mk (fun g => absurd (zn.symm.trans g) (by decide)) (fun _ => ?_) | refine aa.mk _ _ (df kx) ?_ | refine aa.mk _ _ (df ky) ?_ | refine aa.mk _ _ (sp) ?_ | refine aa.mk _ _ (sq) ?_ | refine aa.mk _ _ (t1) ?_ | refine aa.mk _ _ (t2) ?_ | refine aa.mk _ _ (b1) ?_ | refine aa.mk _ _ (b2) ?_ | refine aa.mk _ _ (u1) ?_ | refine aa.mk _ _ (u2) ?_ | refine aa.mk _ _ (cm) ?_ | refine aa.mk _ _ (rb _) ?_ | refine aa.mk _ _ (v1) ?_ | refine aa.mk _ _ (v2) ?_ | refine aa.mk _ _ (dv) ?_ | refine aa.mk _ _ (sg) ?_ | refine aa.mk _ _ (td) ?_ | refine rgE ?_ | refine Cd.mk rfl ?_ | refine ah.mk _ rfl ?_ | (refine TkE.fL ?_; (conv => whnf); fail_if_success (show ae _ _)) | refine Res.mk ?_ | ((with_reducible refine EqE.idW ?_); refine EqE.mk _ (aj (by omega) (by omega)) ?_) | ((with_reducible refine EqE.idS ?_); (refine EqE.fP ?_; (conv => whnf); fail_if_success (show ae _ _))) | refine Cd.ol ?_)
   rw [← hc]; rfl
end Go.Ev.Ar

namespace Go.Ev.Ar
open Go Go.Ev Go.Proofs
theorem ajc {q : Dyadic} {p : Int} : rto q p 0 ≤ q ∧ q ≤ rto q p 1 := by
 unfold rto
 split
 ·rename_i h; rw [h]; grind
 ·obtain ⟨h1, h2, _⟩ := acq q (cn q p); exact ⟨h1, h2⟩
theorem ayx {h K : Nat} {q : Dyadic} {p : Int} (mode : Int) (hm : mode = 0 ∨ mode = 1) (hq : Ht h q) (hp : min (max p 1) 4000 ≤ K) : Ht (h + 2 * K + 2) (rto q p mode) := by
 unfold rto
 split
 ·exact .zero _
 rename_i h0
 have tb := aa9 hq
 obtain ⟨k, hk⟩ := akd q (cn q p) 0
 obtain ⟨j, hj⟩ := akd q (cn q p) 1
 obtain ⟨g1, g2, g3, g4, _⟩ := acq q (cn q p)
 rw [hk] at g1 g3
 rw [hj] at g2 g4
 have s1 := xg k (cn q p)
 have s2 := xg (j - 1) (cn q p)
 rw [Int.sub_add_cancel] at s2
 have l := vn h0
 have e1 : dof (2 ^ (min (max p 1) 4000).toNat) (cn q p) = dof 1 (db q + 1) := by
  rw [aew _ _ (by omega)]; unfold cn; congr 1; omega
 have hu : -((h + K : Nat) : Int) ≤ cn q p ∧ cn q p ≤ ((h + K : Nat) : Int) := by unfold cn; omega
 have hK : (min (max p 1) 4000).toNat + 1 ≤ K + 1 := by omega
 rw [← e1] at l
 obtain ⟨l1, l2⟩ := xc.1 l
 have e2 := n5 (2 ^ (min (max p 1) 4000).toNat) (cn q p)
 have a1 : dof k (cn q p) < dof (2 ^ (min (max p 1) 4000).toNat) (cn q p) := by grind
 have a2 : dof (-(2 ^ (min (max p 1) 4000).toNat)) (cn q p) < dof (k + 1) (cn q p) := by grind
 have a3 : dof (j - 1) (cn q p) < dof (2 ^ (min (max p 1) 4000).toNat) (cn q p) := by grind
 have a4 : dof (-(2 ^ (min (max p 1) 4000).toNat)) (cn q p) < dof j (cn q p) := by grind
 rw [mg] at a1 a2 a3 a4
 rcases hm with rfl | rfl
 ·rw [hk]; exact Ht.dof ((zi (by omega) (by omega)).mono hK) hu.1 hu.2 (by omega)
 ·rw [hj]; exact Ht.dof ((zi (by omega) (by omega)).mono hK) hu.1 hu.2 (by omega)
def kd (z : Cq) (p : Int) : Cq := (rto z.1 p 0, rto z.2 p 1)
theorem _root_.Go.Ev.Hc.kd {h K : Nat} {z : Cq} {p : Int} (hz : Hc h z) (hp : min (max p 1) 4000 ≤ K) : Hc (h + 2 * K + 2) (kd z p) := ⟨ayx 0 (.inl rfl) hz.1 hp, ayx 1 (.inr rfl) hz.2 hp⟩
theorem at3 (z : Cq) (p : Int) : iin z (kd z p) := ⟨ajc.1, ajc.2⟩
theorem agb {z : Cq} (p : Int) (h : Ord z) : Ord (kd z p) := abh (a0i (at3 z p) (aw3 h))
theorem _root_.Go.Ev.Hc.uc {h K : Nat} {z : Cq} {p : Int} (hz : Hc h z) (hp : min (max p 1) 4000 ≤ K) : Hc (h + 2 * K + 4) (uc z p) := ⟨(ast 0 .one hz.2 hp).mono (by omega), (ast 1 .one hz.1 hp).mono (by omega)⟩
def arv (z : Cq) (p : Int) : Cq × Int := if m7 z 0 then ((0, 0), 11) else (uc z p, 0)
def o4 (z w : Cq) (p : Int) : Cq × Int := if m7 w 0 then ((0, 0), 11) else (kd (b8 z (uc w p)) p, 0)
theorem _root_.Go.Ev.Hc.zero (a : Nat) : Hc a (0, 0) := ⟨.zero _, .zero _⟩
theorem _root_.Go.Ev.Hc.o4 {h g K : Nat} {z w : Cq} {p : Int} (hz : Hc h z) (hw : Hc g w) (hp : min (max p 1) 4000 ≤ K) : Hc (h + g + 4 * K + 6) (o4 z w p).1 := by
 unfold Go.Ev.Ar.o4; split
 ·exact Go.Ev.Hc.zero _
 ·exact ((hz.b8 (hw.uc hp) (c := h + (g + 2 * K + 4)) (by omega)).kd hp).mono (by omega)
theorem od : D.agg [.bool false, sl [], .int .i64 0, .bool false, sl [], .int .i64 0] = cxD (0, 0) := by rw [← bh]; rfl
theorem dy0 : DyR (.agg [.bool false, sl [], .int .i64 0]) 0 := DyR.mk false [] 0 (by decide) (by decide) (by decide) (Ht.zero _)
theorem as1 {x : D} {q r : Dyadic} (p mode : Int) (hx : DyR x q) (hq : Ht 100000 q) (h : rto q p mode = r) : Sim Tryz.prog G0 false 136 [x, .int .i64 p, .int .i64 mode] (dyD r) := h ▸ ayn p mode hx hq
theorem aal {x : D} {z r : Cq} (p : Int) (hx : CxR x z) (hz : Hc 100000 z) (h : kd (rof z) p = r) : Sim Tryz.prog G0 false 70 [x, .int .i64 p] (cxD r) := by
 subst h
 have hr := hz.rof
 have s := mu hx (hz.mono (by decide)) rfl
 generalize rof z = r at *
 obtain ⟨u, v⟩ := r
 have g1 := as1 p 0 (.of (hr.1.mono (by decide))) hr.1 rfl
 have g2 := as1 p 1 (.of (hr.2.mono (by decide))) hr.2 rfl
 obtain ⟨_, _⟩ := hx
 refine ao af Tryz.func70 ?_
 repeat' ((conv => whnf); first | with_reducible refine ag.data ?_ | refine aa.mk _ _ (s) ?_ | refine aa.mk _ _ (g1) ?_ | refine aa.mk _ _ (g2) ?_ | refine rgE ?_ | refine Cd.mk rfl ?_ | (refine TkE.fL ?_; (conv => whnf); fail_if_success (show ae _ _)) | refine Res.mk ?_ | ((with_reducible refine EqE.idS ?_); (refine EqE.fP ?_; (conv => whnf); fail_if_success (show ae _ _))) | refine Cd.ol ?_)
 rfl
theorem anm {x : D} {z r : Cq} {c : Int} (p : Int) (hx : CxR x z) (hz : Hc 50000 z) (h : arv (rof z) p = (r, c)) : Sim Tryz.prog G0 false 179 [x, .int .i64 p] (.tup [cxD r, .int .i64 c]) := by
 have hr := hz.rof
 have ho := lf z
 have s := mu hx (hz.mono (by decide)) rfl
 generalize rof z = w at *
 have g := ayi (.of (hr.mono (by decide))) dy0 (hr.mono (by decide)) (Ht.zero _) rfl
 rw [c6 ho] at g
 have one : Sim Tryz.prog G0 false 128 [.int .i64 1] (dyD 1) := tj 1 (by decide) (by decide)
 obtain ⟨u, v⟩ := w
 have d1 := fun (q : Dyadic) (e : nt 1 v p 0 = q) (h0 : (if v = 0 then (11 : Int) else 0) = 0) => asq p 0 (.of (Ht.one.mono (by decide))) (.of (hr.2.mono (by decide))) (Ht.one.mono (by decide)) (hr.2.mono (by decide)) e h0
 have d2 := fun (q : Dyadic) (e : nt 1 u p 1 = q) (h0 : (if u = 0 then (11 : Int) else 0) = 0) => asq p 1 (.of (Ht.one.mono (by decide))) (.of (hr.1.mono (by decide))) (Ht.one.mono (by decide)) (hr.1.mono (by decide)) e h0
 obtain ⟨_, _⟩ := hx
 unfold arv at h
 by_cases c0 : m7 (u, v) 0
 ·rw [if_pos c0] at h
  rw [decide_eq_true c0] at g
  cases h
  refine ao af Tryz.func179 ?_
  repeat' ((conv => whnf); first | with_reducible refine ag.data ?_ | refine aa.mk _ _ (s) ?_ | refine aa.mk _ _ (g) ?_ | refine rgE ?_ | refine Cd.mk rfl ?_ | refine Br.t ?_ | (refine TkE.fL ?_; (conv => whnf); fail_if_success (show ae _ _)) | refine Res.mk ?_ | ((with_reducible refine EqE.idS ?_); (refine EqE.fP ?_; (conv => whnf); fail_if_success (show ae _ _))) | refine Cd.ol ?_)
  show _ = D.tup [D.agg [.bool false, sl [], .int .i64 0, .bool false, sl [], .int .i64 0], _]
  rw [od]; rfl
 ·rw [if_neg c0] at h
  rw [decide_eq_false c0] at g
  cases h
  have hs := at0 p ho c0
  have d1 := d1 _ rfl (if_neg (by rcases hs with k | k <;> grind))
  have d2 := d2 _ rfl (if_neg (by rcases hs with k | k <;> grind))
  refine ao af Tryz.func179 ?_
  repeat' ((conv => whnf); first | with_reducible refine ag.data ?_ | refine aa.mk _ _ (s) ?_ | refine aa.mk _ _ (g) ?_ | refine aa.mk _ _ (one) ?_ | refine aa.mk _ _ (d1) ?_ | refine aa.mk _ _ (d2) ?_ | refine rgE ?_ | refine Cd.mk rfl ?_ | refine Br.f ?_ | refine ah.mk _ rfl ?_ | (refine TkE.fL ?_; (conv => whnf); fail_if_success (show ae _ _)) | refine Res.mk ?_ | ((with_reducible refine EqE.idS ?_); (refine EqE.fP ?_; (conv => whnf); fail_if_success (show ae _ _))) | refine Cd.ol ?_)
  rfl
theorem a0t (p q : Dyadic) : mn p q = mn q p := by unfold mn; grind
theorem a0v (p q : Dyadic) : mx p q = mx q p := by unfold mx; grind
theorem qv (z w : Cq) : b8 (rof z) w = b8 z w := by
 obtain ⟨p, q⟩ := z
 by_cases h : p ≤ q
 ·rw [c6 (show Ord (p, q) from h)]
 ·have e : rof (p, q) = (q, p) := by unfold rof mn mx; dsimp only; congr 1 <;> grind
  rw [e]; unfold b8; dsimp only
  rw [a0t (mn (q * w.1) _), a0v (mx (q * w.1) _)]
theorem ail (z w : Cq) : b8 z w = b8 w z := by
 unfold b8
 rw [Dyadic.mul_comm w.1 z.1, Dyadic.mul_comm w.1 z.2, Dyadic.mul_comm w.2 z.1, Dyadic.mul_comm w.2 z.2]
 generalize z.1 * w.1 = a
 generalize z.1 * w.2 = b
 generalize z.2 * w.1 = c
 generalize z.2 * w.2 = d
 unfold mn mx
 congr 1 <;> grind
theorem at2 (z w : Cq) : b8 z (rof w) = b8 z w := by rw [ail, qv, ail]
end Go.Ev.Ar

namespace Go.Ev.Ar
open Go Go.Ev Go.Proofs
abbrev Rq := Cq × Cq
def fv (z : Rq) : Rq := (rof z.1, rof z.2)
def ou (z : Rq) : Prop := Ord z.1 ∧ Ord z.2
def Hr (h : Nat) (z : Rq) : Prop := Hc h z.1 ∧ Hc h z.2
theorem _root_.Go.Ev.Ar.Hr.mono {a b : Nat} {z : Rq} (h : Hr a z) (hab : a ≤ b) : Hr b z := ⟨h.1.mono hab, h.2.mono hab⟩
theorem _root_.Go.Ev.Ar.Hr.fv {a : Nat} {z : Rq} (h : Hr a z) : Hr a (fv z) := ⟨h.1.rof, h.2.rof⟩
theorem anq (z : Rq) : ou (fv z) := ⟨lf _, lf _⟩
theorem jf {z : Rq} (h : ou z) : fv z = z := Prod.ext (c6 h.1) (c6 h.2)
instance (z : Rq) : Decidable (ou z) := inferInstanceAs (Decidable (z.1.1 ≤ z.1.2 ∧ z.2.1 ≤ z.2.2))
def ada (z w : Rq) : Rq := (js z.1 w.1, js z.2 w.2)
def aef (z w : Rq) : Rq := (wv z.1 w.1, wv z.2 w.2)
def iw (z w : Rq) : Rq := (wv (b8 z.1 w.1) (b8 z.2 w.2), js (b8 z.1 w.2) (b8 z.2 w.1))
def o6 (z : Rq) : Cq := js (g0 z.1 2) (g0 z.2 2)
def rsq (z : Rq) : Rq := (wv (g0 z.1 2) (g0 z.2 2), js (b8 z.1 z.2) (b8 z.1 z.2))
def bn (z : Rq) (p : Int) : Rq := (kd z.1 p, kd z.2 p)
def ayg (z w : Rq) : Rq := (aru z.1 w.1, aru z.2 w.2)
def x4 (z : Rq) (p : Int) : Rq × Int := if m7 (o6 z) 0 then (((0, 0), (0, 0)), 11) else (((o4 z.1 (o6 z) p).1, (o4 (nm z.2) (o6 z) p).1), 0)
def o5 (z w : Rq) (p : Int) : Rq × Int := if m7 (o6 w) 0 then (((0, 0), (0, 0)), 11) else (bn (iw z (x4 w p).1) p, 0)
theorem anh {z w : Rq} (h : ou z) (k : ou w) : ou (ada z w) := ⟨ub h.1 k.1, ub h.2 k.2⟩
theorem anx {z w : Rq} (h : ou z) (k : ou w) : ou (aef z w) := ⟨abk h.1 k.1, abk h.2 k.2⟩
theorem ra (z w : Rq) : ou (iw z w) := ⟨abk (iz _ _) (iz _ _), ub (iz _ _) (iz _ _)⟩
theorem aun {z : Rq} (h : ou z) : Ord (o6 z) := ub (oj 2 h.1) (oj 2 h.2)
theorem as3 {z : Rq} (h : ou z) : ou (rsq z) := ⟨abk (oj 2 h.1) (oj 2 h.2), ub (iz _ _) (iz _ _)⟩
theorem vy {z : Rq} (p : Int) (h : ou z) : ou (bn z p) := ⟨agb p h.1, agb p h.2⟩
theorem Hr.ada {a b c : Nat} {z w : Rq} (h : Hr a z) (k : Hr b w) (hc : max a b < c) : Hr c (ada z w) := ⟨h.1.js k.1 hc, h.2.js k.2 hc⟩
theorem Hr.aef {a b c : Nat} {z w : Rq} (h : Hr a z) (k : Hr b w) (hc : max a b < c) : Hr c (aef z w) := ⟨h.1.wv k.1 hc, h.2.wv k.2 hc⟩
theorem Hr.iw {a b c : Nat} {z w : Rq} (h : Hr a z) (k : Hr b w) (hc : a + b < c) : Hr c (iw z w) :=
 ⟨(h.1.b8 k.1 (c := a + b) (Nat.le_refl _)).wv (h.2.b8 k.2 (c := a + b) (Nat.le_refl _)) (by omega), (h.1.b8 k.2 (c := a + b) (Nat.le_refl _)).js (h.2.b8 k.1 (c := a + b) (Nat.le_refl _)) (by omega)⟩
theorem adq : kb 2 ≤ 2 := by decide
theorem Hr.o6 {a c : Nat} {z : Rq} (h : Hr a z) (hc : a * 2 + 1 < c) : Hc c (o6 z) := (h.1.g0 2 adq (c := a * 2 + 1) (by omega)).js (h.2.g0 2 adq (c := a * 2 + 1) (by omega)) (by omega)
theorem Hr.rsq {a c : Nat} {z : Rq} (h : Hr a z) (hc : a * 2 + 1 < c) : Hr c (rsq z) := ⟨(h.1.g0 2 adq (c := a * 2 + 1) (by omega)).wv (h.2.g0 2 adq (c := a * 2 + 1) (by omega)) (by omega), (h.1.b8 h.2 (c := a * 2) (by omega)).js (h.1.b8 h.2 (c := a * 2) (by omega)) (by omega)⟩
theorem Hr.bn {h K : Nat} {z : Rq} {p : Int} (hz : Hr h z) (hp : min (max p 1) 4000 ≤ K) : Hr (h + 2 * K + 2) (bn z p) := ⟨hz.1.kd hp, hz.2.kd hp⟩
theorem Hr.zero (a : Nat) : Hr a ((0, 0), (0, 0)) := ⟨Go.Ev.Hc.zero a, Go.Ev.Hc.zero a⟩
theorem Hr.x4 {h K : Nat} {z : Rq} {p : Int} (hz : Hr h z) (hp : min (max p 1) 4000 ≤ K) : Hr (h + (h * 2 + 2) + 4 * K + 6) (x4 z p).1 := by
 unfold Go.Ev.Ar.x4
 split
 ·exact Hr.zero _
 ·exact ⟨hz.1.o4 (hz.o6 (by omega)) hp, hz.2.nm.o4 (hz.o6 (by omega)) hp⟩
theorem Hr.o5 {h g K : Nat} {z w : Rq} {p : Int} (hz : Hr h z) (hw : Hr g w) (hp : min (max p 1) 4000 ≤ K) : Hr (h + (g + (g * 2 + 2) + 4 * K + 6) + 1 + 2 * K + 2) (o5 z w p).1 := by
 unfold Go.Ev.Ar.o5
 split
 ·exact Hr.zero _
 ·exact (hz.iw (hw.x4 hp) (c := h + (g + (g * 2 + 2) + 4 * K + 6) + 1) (by omega)).bn hp
def rqD (z : Rq) : D := rcD z.1 z.2
theorem RqR.of {z : Rq} (h : Hr 1048576 z) : RcR (rqD z) z.1 z.2 := .of h.1 h.2
theorem as4 {x : D} {c : Cq} (hx : CxR x c) (hc : Hc 1000000 c) : Sim Tryz.prog G0 false 127 [x] (rqD ((c.1, c.1), (c.2, c.2))) := by
 obtain ⟨h1, h2⟩ := hx
 have g1 := ak6 h1 hc.1
 have g2 := ak6 h2 hc.2
 refine ao af Tryz.func127 ?_
 repeat' ((conv => whnf); first | refine aa.mk _ _ (g1) ?_ | refine aa.mk _ _ (g2) ?_ | refine rgE ?_ | refine Cd.mk rfl ?_ | (refine TkE.fL ?_; (conv => whnf); fail_if_success (show ae _ _)) | refine Res.mk ?_ | ((with_reducible refine EqE.idS ?_); (refine EqE.fP ?_; (conv => whnf); fail_if_success (show ae _ _))) | refine Cd.ol ?_)
 rfl
theorem ayv {x y : D} {z w r : Rq} (hx : RcR x z.1 z.2) (hy : RcR y w.1 w.2) (hz : Hr 1000000 z) (hw : Hr 1000000 w) (h : ada (fv z) (fv w) = r) : Sim Tryz.prog G0 false 131 [x, y] (rqD r) := by
 subst h
 obtain ⟨a, b⟩ := z
 obtain ⟨c, d⟩ := w
 obtain ⟨h1, h2⟩ := hx
 obtain ⟨h3, h4⟩ := hy
 have g1 := x5 h1 h3 hz.1 hw.1 rfl
 have g2 := x5 h2 h4 hz.2 hw.2 rfl
 refine ao af Tryz.func131 ?_
 repeat' ((conv => whnf); first | refine aa.mk _ _ (g1) ?_ | refine aa.mk _ _ (g2) ?_ | refine rgE ?_ | refine Cd.mk rfl ?_ | (refine TkE.fL ?_; (conv => whnf); fail_if_success (show ae _ _)) | refine Res.mk ?_ | ((with_reducible refine EqE.idS ?_); (refine EqE.fP ?_; (conv => whnf); fail_if_success (show ae _ _))) | refine Cd.ol ?_)
 rfl
theorem ayw {x y : D} {z w r : Rq} (hx : RcR x z.1 z.2) (hy : RcR y w.1 w.2) (hz : Hr 1000000 z) (hw : Hr 1000000 w) (h : aef (fv z) (fv w) = r) : Sim Tryz.prog G0 false 159 [x, y] (rqD r) := by
 subst h
 obtain ⟨a, b⟩ := z
 obtain ⟨c, d⟩ := w
 obtain ⟨h1, h2⟩ := hx
 obtain ⟨h3, h4⟩ := hy
 have g1 := ab4 h1 h3 hz.1 hw.1 rfl
 have g2 := ab4 h2 h4 hz.2 hw.2 rfl
 refine ao af Tryz.func159 ?_
 repeat' ((conv => whnf); first | refine aa.mk _ _ (g1) ?_ | refine aa.mk _ _ (g2) ?_ | refine rgE ?_ | refine Cd.mk rfl ?_ | (refine TkE.fL ?_; (conv => whnf); fail_if_success (show ae _ _)) | refine Res.mk ?_ | ((with_reducible refine EqE.idS ?_); (refine EqE.fP ?_; (conv => whnf); fail_if_success (show ae _ _))) | refine Cd.ol ?_)
 rfl
theorem ahb {x y : D} {z w r : Rq} (hx : RcR x z.1 z.2) (hy : RcR y w.1 w.2) (hz : Hr 200000 z) (hw : Hr 200000 w) (h : iw z w = r) : Sim Tryz.prog G0 false 129 [x, y] (rqD r) := by
 subst h
 obtain ⟨a, b⟩ := z
 obtain ⟨c, d⟩ := w
 obtain ⟨h1, h2⟩ := hx
 obtain ⟨h3, h4⟩ := hy
 have m1 := q9 h1 h3 hz.1 hw.1 rfl
 have m2 := q9 h2 h4 hz.2 hw.2 rfl
 have m3 := q9 h1 h4 hz.1 hw.2 rfl
 have m4 := q9 h2 h3 hz.2 hw.1 rfl
 have k1 : Hc 400000 (b8 a c) := hz.1.b8 hw.1 (by decide)
 have k2 : Hc 400000 (b8 b d) := hz.2.b8 hw.2 (by decide)
 have k3 : Hc 400000 (b8 a d) := hz.1.b8 hw.2 (by decide)
 have k4 : Hc 400000 (b8 b c) := hz.2.b8 hw.1 (by decide)
 have s := ab4 (r := wv (b8 a c) (b8 b d)) (.of (k1.mono (by decide))) (.of (k2.mono (by decide))) (k1.mono (by decide)) (k2.mono (by decide)) (by rw [c6 (iz _ _), c6 (iz _ _)])
 have t := x5 (r := js (b8 a d) (b8 b c)) (.of (k3.mono (by decide))) (.of (k4.mono (by decide))) (k3.mono (by decide)) (k4.mono (by decide)) (by rw [c6 (iz _ _), c6 (iz _ _)])
 unfold iw; dsimp only
 generalize wv (b8 a c) (b8 b d) = S at *
 generalize js (b8 a d) (b8 b c) = T at *
 generalize b8 a c = M1 at *
 generalize b8 b d = M2 at *
 generalize b8 a d = M3 at *
 generalize b8 b c = M4 at *
 obtain ⟨_, _⟩ := M1
 obtain ⟨_, _⟩ := M2
 obtain ⟨_, _⟩ := M3
 obtain ⟨_, _⟩ := M4
 obtain ⟨_, _⟩ := S
 obtain ⟨_, _⟩ := T
 refine ao af Tryz.func129 ?_
 repeat' ((conv => whnf); first | refine aa.mk _ _ (m1) ?_ | refine aa.mk _ _ (m2) ?_ | refine aa.mk _ _ (m3) ?_ | refine aa.mk _ _ (m4) ?_ | refine aa.mk _ _ (s) ?_ | refine aa.mk _ _ (t) ?_ | refine rgE ?_ | refine Cd.mk rfl ?_ | (refine TkE.fL ?_; (conv => whnf); fail_if_success (show ae _ _)) | refine Res.mk ?_ | ((with_reducible refine EqE.idS ?_); (refine EqE.fP ?_; (conv => whnf); fail_if_success (show ae _ _))) | refine Cd.ol ?_)
 rfl
theorem aw5 {m : Cq} (h : Ord m) : b8 m (dof 2 0, dof 2 0) = js m m := by
 obtain ⟨p, q⟩ := m
 unfold Ord at h; dsimp only at h
 have e : ∀ d : Dyadic, d * dof 2 0 = d + d := fun d => by
  rw [show dof 2 0 = 1 + 1 by decide]; grind
 unfold b8 js; dsimp only
 rw [e, e]
 unfold mn mx
 congr 1 <;> grind
theorem aqm {x : D} {m r : Cq} (hx : CxR x m) (hm : Hc 200000 m) (h : b8 m (dof 2 0, dof 2 0) = r) : Sim Tryz.prog G0 false 181 [x] (cxD r) := by
 have ht : Ht 164 (dof 2 0) := Ht.cst (by decide)
 have s1 := ak6 (.of (ht.mono (show 164 ≤ 1048576 by decide))) (ht.mono (by decide))
 have h2 : Hc 164 (dof 2 0, dof 2 0) := ⟨ht, ht⟩
 have s2 := q9 hx (.of (h2.mono (by decide))) hm (h2.mono (by decide)) h
 obtain ⟨_, _⟩ := hx
 refine ao af Tryz.func181 ?_
 repeat' ((conv => whnf); first | refine aa.mk _ _ (tj 2 (by decide) (by decide)) ?_ | refine aa.mk _ _ (s1) ?_ | refine aa.mk _ _ (s2) ?_ | refine rgE ?_ | refine Cd.mk rfl ?_ | (refine TkE.fL ?_; (conv => whnf); fail_if_success (show ae _ _)) | refine Res.mk ?_ | ((with_reducible refine EqE.idS ?_); (refine EqE.fP ?_; (conv => whnf); fail_if_success (show ae _ _))) | refine Cd.ol ?_)
 rfl
theorem auu {x y : D} {z w r : Rq} (hx : RcR x z.1 z.2) (hy : RcR y w.1 w.2) (hz : Hr 1000000 z) (hw : Hr 1000000 w) (h : ayg (fv z) (fv w) = r) : Sim Tryz.prog G0 false 105 [x, y] (rqD r) := by
 subst h
 obtain ⟨a, b⟩ := z
 obtain ⟨c, d⟩ := w
 obtain ⟨h1, h2⟩ := hx
 obtain ⟨h3, h4⟩ := hy
 have g1 := ai8 h1 h3 hz.1 hw.1 rfl
 have g2 := ai8 h2 h4 hz.2 hw.2 rfl
 refine ao af Tryz.func105 ?_
 repeat' ((conv => whnf); first | refine aa.mk _ _ (g1) ?_ | refine aa.mk _ _ (g2) ?_ | refine rgE ?_ | refine Cd.mk rfl ?_ | (refine TkE.fL ?_; (conv => whnf); fail_if_success (show ae _ _)) | refine Res.mk ?_ | ((with_reducible refine EqE.idS ?_); (refine EqE.fP ?_; (conv => whnf); fail_if_success (show ae _ _))) | refine Cd.ol ?_)
 rfl
theorem aan {x : D} {z r : Rq} (p : Int) (hx : RcR x z.1 z.2) (hz : Hr 100000 z) (h : bn (fv z) p = r) : Sim Tryz.prog G0 false 134 [x, .int .i64 p] (rqD r) := by
 subst h
 obtain ⟨a, b⟩ := z
 obtain ⟨h1, h2⟩ := hx
 have g1 := aal p h1 hz.1 rfl
 have g2 := aal p h2 hz.2 rfl
 refine ao af Tryz.func134 ?_
 repeat' ((conv => whnf); first | refine aa.mk _ _ (g1) ?_ | refine aa.mk _ _ (g2) ?_ | refine rgE ?_ | refine Cd.mk rfl ?_ | (refine TkE.fL ?_; (conv => whnf); fail_if_success (show ae _ _)) | refine Res.mk ?_ | ((with_reducible refine EqE.idS ?_); (refine EqE.fP ?_; (conv => whnf); fail_if_success (show ae _ _))) | refine Cd.ol ?_)
 rfl
theorem anv : D.agg [.bool false, sl [], .int .i64 0, .bool false, sl [], .int .i64 0, .bool false, sl [], .int .i64 0, .bool false, sl [], .int .i64 0] = rqD ((0, 0), (0, 0)) := by rw [← bh]; rfl
end Go.Ev.Ar

namespace Go.Ev.Ar
open Go Go.Ev Go.Proofs
theorem aqe (z w : Rq) : iw (fv z) w = iw z w := by
 unfold iw fv; dsimp only
 rw [qv, qv, qv, qv]
theorem a1l (z : Rq) (p : Int) : (x4 z p).2 = if m7 (o6 z) 0 then 11 else 0 := by unfold x4; split <;> rfl
end Go.Ev.Ar

namespace Go.Ev.Ar
open Go Go.Ev Go.Proofs
def ar (a b : Cq) : Cq := (a.1 * b.1 - a.2 * b.2, a.1 * b.2 + a.2 * b.1)
def cpw (a : Cq) : Nat → Cq
 | 0 => (1, 0)
 | n + 1 => ar (cpw a n) a
def ptR (c : Cq) : Rq := ((c.1, c.1), (c.2, c.2))
end Go.Ev.Ar

namespace Go.Ev.Ar
open Go Go.Ev Go.Proofs
theorem asy {z : Cq} {d : Dyadic} {t : Bool} (hz : Hc 48000 z) (hd : Ht 48000 d) (h : decide (m7 z d) = t) : Sim Tryz.prog G0 true 28 [cxD z, dyD d] (.bool t) := by
 subst h
 obtain ⟨p, q⟩ := z
 have h1 := hz.1.sub hd (c := 50000) (by decide)
 have h2 := hd.sub hz.2 (c := 50000) (by decide)
 refine ao af Tryz.func28 ?_
 repeat' ((conv => whnf); first | with_reducible refine ag.data ?_ | refine aa.mk _ _ (ai5 (p := p) (q := d) (hz.1.mono (by decide)) (hd.mono (by decide)) h1) ?_ | refine aa.mk _ _ (ai5 (p := d) (q := q) (hd.mono (by decide)) (hz.2.mono (by decide)) h2) ?_ | refine rgE ?_ | refine Cd.mk rfl ?_ | refine Br.t ?_ | refine Br.f ?_ | with_reducible refine Br.dec (fun _ => ?_) (fun _ => ?_) | (refine TkE.fL ?_; (conv => whnf); fail_if_success (show ae _ _)) | refine Res.mk ?_)
 ·rename_i h
  refine congrArg D.bool (decide_eq_decide.2 ?_)
  rw [vd] at h ⊢
  exact ⟨fun g => g.2, fun g => ⟨h, g⟩⟩
 ·rename_i h
  rw [vd] at h
  exact congrArg D.bool (decide_eq_false fun g => h g.1)
end Go.Ev.Ar

namespace Go.Ev.Ar
open Go Go.Ev Go.Proofs
theorem iv {a : Cq} {t : Bool} (ha : Hc 50000 a) (h : decide (a = (0, 0)) = t) : Sim Tryz.prog G0 true 50 [cxD a] (.bool t) := by
 subst h
 obtain ⟨a1, a2⟩ := ha
 obtain ⟨p, q⟩ := a
 have e1 : dsg p = 0 ↔ p = 0 := jj
 have e2 : dsg q = 0 ↔ q = 0 := jj
 refine ao af Tryz.func50 ?_
 repeat' ((conv => whnf); first | with_reducible refine ag.data ?_ | refine aa.mk _ _ (aah (p := p) a1) ?_ | refine aa.mk _ _ (aah (p := q) a2) ?_ | refine rgE ?_ | refine Cd.mk rfl ?_ | refine Br.t ?_ | refine Br.f ?_ | with_reducible refine Br.dec (fun _ => ?_) (fun _ => ?_) | (refine TkE.fL ?_; (conv => whnf); fail_if_success (show ae _ _)) | refine Res.mk ?_)
 ·rename_i h
  refine congrArg D.bool (decide_eq_decide.2 ?_)
  rw [Prod.mk.injEq, e2, e1.1 h]; simp
 ·rename_i h
  refine congrArg D.bool (decide_eq_false ?_)
  rw [Prod.mk.injEq]; exact fun g => h (e1.2 g.1)
theorem ai4 {a w : Cq} (ha : Hc 50000 a) (h : (-a.1, -a.2) = w) : Sim Tryz.prog G0 false 155 [cxD a] (cxD w) := by
 subst h
 obtain ⟨a1, a2⟩ := ha
 obtain ⟨p, q⟩ := a
 refine ao af Tryz.func155 ?_
 repeat' ((conv => whnf); first | refine aa.mk _ _ (adb (p := p) a1) ?_ | refine aa.mk _ _ (adb (p := q) a2) ?_ | refine rgE ?_ | refine Cd.mk rfl ?_ | (refine TkE.fL ?_; (conv => whnf); fail_if_success (show ae _ _)) | refine Res.mk ?_ | ((with_reducible refine EqE.idS ?_); (refine EqE.fP ?_; (conv => whnf); fail_if_success (show ae _ _))) | refine Cd.ol ?_)
 rfl
end Go.Ev.Ar

namespace Go.Ev.Ar
open Go Go.Ev Go.Proofs
theorem aue (c : Cq) : Sim Tryz.prog G0 false 34 [cxD c] (rqD ((c.1, c.1), (c.2, c.2))) := by
 obtain ⟨_, _⟩ := c
 refine ao af Tryz.func34 ?_
 repeat' ((conv => whnf); first | refine rgE ?_ | refine Cd.mk rfl ?_ | (refine TkE.fL ?_; (conv => whnf); fail_if_success (show ae _ _)) | refine Res.mk ?_ | ((with_reducible refine EqE.idS ?_); (refine EqE.fP ?_; (conv => whnf); fail_if_success (show ae _ _))) | refine Cd.ol ?_)
 rfl
theorem asx {a b : Cq} {t : Bool} (ha : Hc 50000 a) (hb : Hc 50000 b) (h : decide (a = b) = t) : Sim Tryz.prog G0 true 49 [cxD a, cxD b] (.bool t) := by
 subst h
 refine ao af Tryz.func49 ?_
 repeat' ((conv => whnf); first | with_reducible refine ag.data ?_ | refine aa.mk _ _ (ag5 ha.1 hb.1) ?_ | refine aa.mk _ _ (ag5 ha.2 hb.2) ?_ | refine rgE ?_ | refine Cd.mk rfl ?_ | refine Br.t ?_ | refine Br.f ?_ | with_reducible refine Br.dec (fun _ => ?_) (fun _ => ?_) | (refine TkE.fL ?_; (conv => whnf); fail_if_success (show ae _ _)) | refine Res.mk ?_)
 ·rename_i h
  refine congrArg D.bool (decide_eq_decide.2 ?_)
  rw [Prod.ext_iff]; exact ⟨fun g => g.2, fun g => ⟨h, g⟩⟩
 ·rename_i h
  exact congrArg D.bool (decide_eq_false fun g => h (by rw [g]))
theorem ayc {z : Rq} {c : Cq} {t : Bool} (hz : Hr 48000 z) (hc : Hc 48000 c) (h : decide (m7 z.1 c.1 ∧ m7 z.2 c.2) = t) : Sim Tryz.prog G0 true 41 [rqD z, cxD c] (.bool t) := by
 subst h
 obtain ⟨⟨_, _⟩, ⟨_, _⟩⟩ := z
 obtain ⟨_, _⟩ := c
 have g1 := asy hz.1 hc.1 rfl
 have g2 := asy hz.2 hc.2 rfl
 refine ao af Tryz.func41 ?_
 repeat' ((conv => whnf); first | with_reducible refine ag.data ?_ | refine aa.mk _ _ (g1) ?_ | refine aa.mk _ _ (g2) ?_ | refine rgE ?_ | refine Cd.mk rfl ?_ | refine Br.t ?_ | refine Br.f ?_ | with_reducible refine Br.dec (fun _ => ?_) (fun _ => ?_) | (refine TkE.fL ?_; (conv => whnf); fail_if_success (show ae _ _)) | refine Res.mk ?_)
 ·rename_i h
  exact congrArg D.bool (decide_eq_decide.2 ⟨fun g => g.2, fun g => ⟨h, g⟩⟩)
 ·rename_i h
  exact congrArg D.bool (decide_eq_false fun g => h g.1)
end Go.Ev.Ar

namespace Go.Ev.Ar
open Go Go.Ev Go.Proofs
theorem awn (m n : Int) (h1 : -9223372036854775808 ≤ m) (h2 : m ≤ 9223372036854775807) (h3 : -9223372036854775808 ≤ n) (h4 : n ≤ 9223372036854775807) : Sim Tryz.prog G0 false 90 [.int .i64 m, .int .i64 n] (cxD (dof m 0, dof n 0)) := by
 refine ao af Tryz.func90 ?_
 repeat' ((conv => whnf); first | with_reducible refine ag.data ?_ | refine aa.mk _ _ (tj m h1 h2) ?_ | refine aa.mk _ _ (tj n h3 h4) ?_ | refine rgE ?_ | refine Cd.mk rfl ?_ | (refine TkE.fL ?_; (conv => whnf); fail_if_success (show ae _ _)) | refine Res.mk ?_ | ((with_reducible refine EqE.idS ?_); (refine EqE.fP ?_; (conv => whnf); fail_if_success (show ae _ _))) | refine Cd.ol ?_)
 rfl
theorem a0d {x : D} {a r : Cq} (hx : CxR x a) (h : (-a.1, -a.2) = r) : Sim Tryz.prog G0 false 93 [x] (cxD r) := by
 subst h
 obtain ⟨h1, h2⟩ := hx
 refine ao af Tryz.func93 ?_
 repeat' ((conv => whnf); first | refine aa.mk _ _ (qt h1) ?_ | refine aa.mk _ _ (qt h2) ?_ | refine rgE ?_ | refine Cd.mk rfl ?_ | (refine TkE.fL ?_; (conv => whnf); fail_if_success (show ae _ _)) | refine Res.mk ?_ | ((with_reducible refine EqE.idS ?_); (refine EqE.fP ?_; (conv => whnf); fail_if_success (show ae _ _))) | refine Cd.ol ?_)
 rfl
theorem abg {x y : D} {a b r : Cq} (hx : CxR x a) (hy : CxR y b) (ha : Hc 200000 a) (hb : Hc 200000 b) (h : ar a b = r) : Sim Tryz.prog G0 false 152 [x, y] (cxD r) := by
 subst h
 have a1 : Ht 1048576 (a.1 * b.1) := (ha.1.mul hb.1 (c := 400000) (by decide)).mono (by decide)
 have a2 : Ht 1048576 (a.2 * b.2) := (ha.2.mul hb.2 (c := 400000) (by decide)).mono (by decide)
 have a3 : Ht 1048576 (a.1 * b.2) := (ha.1.mul hb.2 (c := 400000) (by decide)).mono (by decide)
 have a4 : Ht 1048576 (a.2 * b.1) := (ha.2.mul hb.1 (c := 400000) (by decide)).mono (by decide)
 obtain ⟨h1, h2⟩ := hx
 obtain ⟨h3, h4⟩ := hy
 dsimp only at a1 a2 a3 a4
 have s1 := oe h1 h3
 have s2 := oe h2 h4
 have s3 := oe h1 h4
 have s4 := oe h2 h3
 have s5 := al5 (DyR.of a1) (DyR.of a2)
 have s6 := th (DyR.of a3) (DyR.of a4)
 refine ao af Tryz.func152 ?_
 repeat' ((conv => whnf); first | refine aa.mk _ _ (s1) ?_ | refine aa.mk _ _ (s2) ?_ | refine aa.mk _ _ (s3) ?_ | refine aa.mk _ _ (s4) ?_ | refine aa.mk _ _ (s5) ?_ | refine aa.mk _ _ (s6) ?_ | refine rgE ?_ | refine Cd.mk rfl ?_ | (refine TkE.fL ?_; (conv => whnf); fail_if_success (show ae _ _)) | refine Res.mk ?_ | ((with_reducible refine EqE.idS ?_); (refine EqE.fP ?_; (conv => whnf); fail_if_success (show ae _ _))) | refine Cd.ol ?_)
 rfl
theorem awq {x : D} {a : Cq} {t : Bool} (hx : CxR x a) (h : decide (a = (0, 0)) = t) : Sim Tryz.prog G0 true 153 [x] (.bool t) := by
 subst h
 obtain ⟨h1, h2⟩ := hx
 rename_i b l e c k f p q
 have e1 : dsg p = 0 ↔ p = 0 := jj
 have e2 : dsg q = 0 ↔ q = 0 := jj
 have s1 := gi h1
 have s2 := gi h2
 refine ao af Tryz.func153 ?_
 repeat' ((conv => whnf); first | with_reducible refine ag.data ?_ | refine aa.mk _ _ (s1) ?_ | refine aa.mk _ _ (s2) ?_ | refine rgE ?_ | refine Cd.mk rfl ?_ | refine Br.t ?_ | refine Br.f ?_ | with_reducible refine Br.dec (fun _ => ?_) (fun _ => ?_) | (refine TkE.fL ?_; (conv => whnf); fail_if_success (show ae _ _)) | refine Res.mk ?_)
 ·rename_i h
  refine congrArg D.bool (decide_eq_decide.2 ?_)
  rw [Prod.mk.injEq, e2, e1.1 h]; simp
 ·rename_i h
  refine congrArg D.bool (decide_eq_false ?_)
  rw [Prod.mk.injEq]; exact fun g => h (e1.2 g.1)
theorem zg {q : Dyadic} (hq : Ht 9000 q) : Sim Tryz.prog G0 true 154 [dyD q] (.bool true) := by
 obtain ⟨h1, h2, h3⟩ := hq.parts
 have s1 := a20 (hq.mono (show 9000 ≤ 20000 by decide))
 have hl : (ofN (ak q).natAbs).length < 2 ^ 32 := Nat.lt_of_le_of_lt (h1.len (k := 65536) (by decide)) (by decide)
 have s2 := afm (ofN (ak q).natAbs) hl
 have hb : nb (nv (ofN (ak q).natAbs)) ≤ 18000 := by rw [aw]; exact Zt.nb h1
 refine ao af Tryz.func154 ?_
 repeat' ((conv => whnf); first | with_reducible refine ag.data ?_ | refine aa.mk _ _ (s1) ?_ | refine aa.mk _ _ (s2) ?_ | refine rgE ?_ | refine Cd.mk rfl ?_ | refine Br.t ?_ | refine ah.mk _ rfl ?_ | (refine TkE.fL ?_; (conv => whnf); fail_if_success (show ae _ _)) | refine Res.mk ?_)
 exact congrArg D.bool (decide_eq_true (by omega)).symm
def mw (p q : Rq) : Rq := (ar p.1 q.1, ar p.2 q.2)
def wj (p q : Rq) : Rq := if p.2 = q.2 then ((p.1.1 + q.1.1, p.1.2 + q.1.2), p.2) else (((ar p.1 q.2).1 + (ar q.1 p.2).1, (ar p.1 q.2).2 + (ar q.1 p.2).2), ar p.2 q.2)
theorem Hc.ar {a b c : Nat} {z w : Cq} (h : Hc a z) (k : Hc b w) (hc : a + b < c) : Hc c (Ar.ar z w) :=
 ⟨(h.1.mul k.1 (Nat.le_refl _)).sub (h.2.mul k.2 (Nat.le_refl _)) (by omega), (h.1.mul k.2 (Nat.le_refl _)).add (h.2.mul k.1 (Nat.le_refl _)) (by omega)⟩
theorem adi {p q r : Rq} (hp : Hr 9000 p) (hq : Hr 9000 q) (h : mw p q = r) : Sim Tryz.prog G0 false 94 [rqD p, rqD q] (rqD r) := by
 have s1 := abg (r := r.1) (CxR.of (hp.1.mono (by decide))) (CxR.of (hq.1.mono (by decide))) (hp.1.mono (by decide)) (hq.1.mono (by decide)) (congrArg Prod.fst h)
 have s2 := abg (r := r.2) (CxR.of (hp.2.mono (by decide))) (CxR.of (hq.2.mono (by decide))) (hp.2.mono (by decide)) (hq.2.mono (by decide)) (congrArg Prod.snd h)
 clear h hp hq
 obtain ⟨⟨_, _⟩, ⟨_, _⟩⟩ := p
 obtain ⟨⟨_, _⟩, ⟨_, _⟩⟩ := q
 obtain ⟨⟨_, _⟩, ⟨_, _⟩⟩ := r
 refine ao af Tryz.func94 ?_
 repeat' ((conv => whnf); first | refine aa.mk _ _ (s1) ?_ | refine aa.mk _ _ (s2) ?_ | refine rgE ?_ | refine Cd.mk rfl ?_ | (refine TkE.fL ?_; (conv => whnf); fail_if_success (show ae _ _)) | refine Res.mk ?_ | ((with_reducible refine EqE.idS ?_); (refine EqE.fP ?_; (conv => whnf); fail_if_success (show ae _ _))) | refine Cd.ol ?_)
 rfl
theorem ant {p q r : Rq} (hp : Hr 9000 p) (hq : Hr 9000 q) (h : wj p q = r) : Sim Tryz.prog G0 false 92 [rqD p, rqD q] (rqD r) := by
 obtain ⟨t, ht⟩ : ∃ t, decide (p.2 = q.2) = t := ⟨_, rfl⟩
 have s0 := awo (CxR.of (hp.2.mono (show 9000 ≤ 1048576 by decide))) (CxR.of (hq.2.mono (show 9000 ≤ 1048576 by decide))) (hp.2.mono (by decide)) (hq.2.mono (by decide)) ht
 have s1 := arq (CxR.of (hp.1.mono (show 9000 ≤ 1048576 by decide))) (CxR.of (hq.1.mono (show 9000 ≤ 1048576 by decide))) rfl
 have s2 := abg (CxR.of (hp.1.mono (by decide))) (CxR.of (hq.2.mono (by decide))) (hp.1.mono (by decide)) (hq.2.mono (by decide)) rfl
 have s3 := abg (CxR.of (hq.1.mono (by decide))) (CxR.of (hp.2.mono (by decide))) (hq.1.mono (by decide)) (hp.2.mono (by decide)) rfl
 have s4 := abg (CxR.of (hp.2.mono (by decide))) (CxR.of (hq.2.mono (by decide))) (hp.2.mono (by decide)) (hq.2.mono (by decide)) rfl
 have h2 : Hc 18001 (ar p.1 q.2) := Hc.ar hp.1 hq.2 (by decide)
 have h3 : Hc 18001 (ar q.1 p.2) := Hc.ar hq.1 hp.2 (by decide)
 have s5 := arq (CxR.of (h2.mono (show 18001 ≤ 1048576 by decide))) (CxR.of (h3.mono (show 18001 ≤ 1048576 by decide))) rfl
 unfold wj at h
 clear h2 h3 hp hq
 cases t
 ·rw [if_neg (of_decide_eq_false ht)] at h
  clear ht s1
  subst h
  generalize ar p.1 q.2 = u at *
  generalize ar q.1 p.2 = v at *
  generalize ar p.2 q.2 = w at *
  obtain ⟨⟨_, _⟩, ⟨_, _⟩⟩ := p
  obtain ⟨⟨_, _⟩, ⟨_, _⟩⟩ := q
  obtain ⟨_, _⟩ := u
  obtain ⟨_, _⟩ := v
  obtain ⟨_, _⟩ := w
  refine ao af Tryz.func92 ?_
  repeat' ((conv => whnf); first | with_reducible refine ag.data ?_ | refine aa.mk _ _ (s0) ?_ | refine aa.mk _ _ (s2) ?_ | refine aa.mk _ _ (s3) ?_ | refine aa.mk _ _ (s4) ?_ | refine aa.mk _ _ (s5) ?_ | refine rgE ?_ | refine Cd.mk rfl ?_ | refine Br.f ?_ | (refine TkE.fL ?_; (conv => whnf); fail_if_success (show ae _ _)) | refine Res.mk ?_ | ((with_reducible refine EqE.idS ?_); (refine EqE.fP ?_; (conv => whnf); fail_if_success (show ae _ _))) | refine Cd.ol ?_)
  rfl
 ·rw [if_pos (of_decide_eq_true ht)] at h
  clear ht s2 s3 s4 s5
  subst h
  obtain ⟨⟨_, _⟩, ⟨_, _⟩⟩ := p
  obtain ⟨⟨_, _⟩, ⟨_, _⟩⟩ := q
  refine ao af Tryz.func92 ?_
  repeat' ((conv => whnf); first | with_reducible refine ag.data ?_ | refine aa.mk _ _ (s0) ?_ | refine aa.mk _ _ (s1) ?_ | refine rgE ?_ | refine Cd.mk rfl ?_ | refine Br.t ?_ | (refine TkE.fL ?_; (conv => whnf); fail_if_success (show ae _ _)) | refine Res.mk ?_ | ((with_reducible refine EqE.idS ?_); (refine EqE.fP ?_; (conv => whnf); fail_if_success (show ae _ _))) | refine Cd.ol ?_)
  rfl
theorem mr {p : Rq} {t : Bool} (hp : Hr 9000 p) (ht : (!decide (p.2 = (0, 0))) = t) : Sim Tryz.prog G0 true 95 [rqD p] (.bool t) := by
 obtain ⟨u, hu⟩ : ∃ u, decide (p.2 = (0, 0)) = u := ⟨_, rfl⟩
 have s0 := awq (CxR.of (hp.2.mono (show 9000 ≤ 1048576 by decide))) hu
 have s1 := zg hp.1.1
 have s2 := zg hp.1.2
 have s3 := zg hp.2.1
 have s4 := zg hp.2.2
 rw [hu] at ht
 subst ht
 clear hu hp
 obtain ⟨⟨_, _⟩, ⟨_, _⟩⟩ := p
 cases u
 ·refine ao af Tryz.func95 ?_
  repeat' ((conv => whnf); first | with_reducible refine ag.data ?_ | refine aa.mk _ _ (s0) ?_ | refine aa.mk _ _ (s1) ?_ | refine aa.mk _ _ (s2) ?_ | refine aa.mk _ _ (s3) ?_ | refine aa.mk _ _ (s4) ?_ | refine rgE ?_ | refine Cd.mk rfl ?_ | refine Br.t ?_ | (refine TkE.fL ?_; (conv => whnf); fail_if_success (show ae _ _)) | refine Res.mk ?_)
  rfl
 ·refine ao af Tryz.func95 ?_
  repeat' ((conv => whnf); first | with_reducible refine ag.data ?_ | refine aa.mk _ _ (s0) ?_ | refine rgE ?_ | refine Cd.mk rfl ?_ | refine Br.f ?_ | (refine TkE.fL ?_; (conv => whnf); fail_if_success (show ae _ _)) | refine Res.mk ?_)
  rfl
def zeR : List D := [.bool false, .nil, .int .i64 0, .bool false, .nil, .int .i64 0, .bool false, .nil, .int .i64 0, .bool false, .nil, .int .i64 0]
theorem ag6 : Sim Tryz.prog G0 true 95 [.agg [.bool false, sl [], .int .i64 0, .bool false, sl [], .int .i64 0, .bool false, sl [], .int .i64 0, .bool false, sl [], .int .i64 0]] (.bool false) := by
 have z : Hc 0 ((0, 0) : Cq) := ⟨.zero _, .zero _⟩
 have h := mr (p := ((0, 0), (0, 0))) (t := false) ⟨z.mono (by decide), z.mono (by decide)⟩ (by decide)
 have e : D.agg [.bool false, sl [], .int .i64 0, .bool false, sl [], .int .i64 0, .bool false, sl [], .int .i64 0, .bool false, sl [], .int .i64 0] = rqD ((0, 0), (0, 0)) := by rw [← bh]; rfl
 rw [e]; exact h
theorem nn {b : Bool} {l : List UInt32} {e : Int} (h : kq b l e = true) : a7 (ak (dof (zv b l) e)) = b ∧ ofN (ak (dof (zv b l) e)).natAbs = l ∧ av (dof (zv b l) e) = e ∧ -20000 ≤ e ∧ e ≤ 20000 := by
 unfold kq at h
 rw [Bool.and_eq_true, Bool.and_eq_true, Bool.and_eq_true, Bool.and_eq_true] at h
 obtain ⟨⟨⟨⟨h1, h2⟩, h3⟩, h4⟩, h5⟩ := h
 have h3 := of_decide_eq_true h3
 have h4 := of_decide_eq_true h4
 by_cases hl : l.length = 0
 ·rw [if_pos hl] at h5
  have : l = [] := List.length_eq_zero_iff.1 hl
  subst this
  have h5 := of_decide_eq_true h5
  subst h5
  have hb : b = false := by simpa using h2
  subst hb
  exact ⟨by decide, by rw [show ak (dof (zv false []) 0) = 0 by decide]; exact bh, by decide, by decide, by decide⟩
 ·rw [if_neg hl] at h5
  have o := (azq b l).2 (of_decide_eq_true h5)
  have m0 : zv b l ≠ 0 := by omega
  have t : tzn (zv b l).natAbs = 0 := alf (by omega)
  obtain ⟨p1, p2, p3⟩ := nh e m0
  rw [t] at p2 p3
  have na := nw b l
  refine ⟨?_, ?_, by omega, h3, h4⟩
  ·rw [p1, ace, decide_eq_true (by omega), Bool.and_true]
  ·rw [p2, na, Nat.pow_zero, Nat.div_one, akt h1]
end Go.Ev.Ar

namespace Go.Ev.Ar
open Go Go.Ev Go.Proofs
def inA (a : Int) (i : Nat) : Bool := decide (0 ≤ a ∧ a < i)
def ef (ss : List Int) (x : Nd) (i : Nat) : Int :=
 if x.k = 7 ∧ inA x.a i = true then ss.getD x.a.toNat 0 * max 1 (min x.n 64) + 1
 else if (3 ≤ x.k ∧ x.k ≤ 6) ∧ inA x.a i = true ∧ inA x.b i = true then ss.getD x.a.toNat 0 + ss.getD x.b.toNat 0 + 1
 else if 8 ≤ x.k ∧ inA x.a i = true then ss.getD x.a.toNat 0 + 1
 else 1
def szL (xs : List Nd) : Nat → List Int
 | 0 => []
 | i + 1 => szL xs i ++ [ef (szL xs i) (xs.getD i Nd.nil) i]
theorem v5 (xs : List Nd) : ∀ i, (szL xs i).length = i
 | 0 => rfl
 | i + 1 => by rw [szL, List.length_append, v5 xs i]; rfl
def alv (xs : List Nd) : Bool := (szL xs xs.length).any fun s => decide (s > 60)
abbrev ai : Cq := (1, 0)
def ap8 (p : Rq) : Rq := ((-p.1.1, -p.1.2), p.2)
def rm (p : Rq) : Nat → Rq
 | 0 => (ai, ai)
 | j + 1 => mw (rm p j) p
def jn (vs : List Rq) (x : Nd) (z : Cq) : Option Rq :=
 if x.k = 1 then some (z, ai)
 else if x.k = 2 then some (x.r.val, ai)
 else if x.k = 3 then some (wj (vs.getD x.a.toNat (ai, ai)) (vs.getD x.b.toNat (ai, ai)))
 else if x.k = 4 then some (wj (vs.getD x.a.toNat (ai, ai)) (ap8 (vs.getD x.b.toNat (ai, ai))))
 else if x.k = 5 then some (mw (vs.getD x.a.toNat (ai, ai)) (vs.getD x.b.toNat (ai, ai)))
 else if x.k = 6 then some (mw (vs.getD x.a.toNat (ai, ai)) ((vs.getD x.b.toNat (ai, ai)).2, (vs.getD x.b.toNat (ai, ai)).1))
 else if x.k = 7 then some (rm (vs.getD x.a.toNat (ai, ai)) x.n.toNat)
 else none
def abr (vs : List Rq) (x : Nd) (z : Cq) : Option Rq := (jn vs x z).bind fun r => if r.2 = (0, 0) then none else some r
def exL (xs : List Nd) (z : Cq) : Nat → Option (List Rq)
 | 0 => some []
 | i + 1 => (exL xs z i).bind fun vs => (abr vs (xs.getD i Nd.nil) z).map fun r => vs ++ [r]
theorem amb {xs : List Nd} {z : Cq} : ∀ {i j : Nat}, exL xs z i = none → i ≤ j → exL xs z j = none
 | i, 0, h, hj => by rw [show i = 0 by omega] at h; cases h
 | i, j + 1, h, hj => by
  by_cases e : i = j + 1
  ·rw [← e]; exact h
  ·unfold exL; rw [amb h (by omega)]; rfl
def oc : Option Rq → List D
 | none => zeR
 | some p => [.bool (a7 (ak p.1.1)), sl (ofN (ak p.1.1).natAbs), .int .i64 (av p.1.1), .bool (a7 (ak p.1.2)), sl (ofN (ak p.1.2).natAbs), .int .i64 (av p.1.2), .bool (a7 (ak p.2.1)), sl (ofN (ak p.2.1).natAbs), .int .i64 (av p.2.1), .bool (a7 (ak p.2.2)), sl (ofN (ak p.2.2).natAbs), .int .i64 (av p.2.2)]
theorem aks (o : Option Rq) : (oc o).length = 12 := by cases o <;> rfl
def a9 (vs : List Rq) (n : Nat) : List (Option Rq) := vs.map some ++ List.replicate (n - vs.length) none
theorem x6 {vs : List Rq} {n : Nat} (h : vs.length ≤ n) : (a9 vs n).length = n := by unfold a9; simp; omega
theorem eh {vs : List Rq} {n i : Nat} (h : i < vs.length) : (a9 vs n).getD i none = some (vs.getD i (ai, ai)) := by
 unfold a9
 rw [List.getD_eq_getElem?_getD, List.getElem?_append_left (by simpa using h), List.getElem?_map, List.getD_eq_getElem?_getD]
 simp [h]
theorem auo {vs : List Rq} {n i : Nat} (h : vs.length ≤ i) : (a9 vs n).getD i none = none := by
 unfold a9
 rw [List.getD_eq_getElem?_getD, List.getElem?_append_right (by simpa using h), List.getElem?_replicate]
 split <;> rfl
theorem aha {vs : List Rq} {n : Nat} (r : Rq) (h : vs.length < n) : (a9 vs n).set vs.length (some r) = a9 (vs ++ [r]) n := by
 unfold a9
 rw [List.set_append_right _ _ (by simp), List.length_map, Nat.sub_self, List.map_append, List.append_assoc, List.length_append, show n - vs.length = (n - (vs.length + 1)) + 1 by omega, List.replicate_succ]
 rfl
theorem a25 (n : Nat) : jb n (nc [.bool, .nil, .int .i64, .bool, .nil, .int .i64, .bool, .nil, .int .i64, .bool, .nil, .int .i64]) = fa oc (a9 [] n) := by
 unfold a9 fa jb
 rw [List.map_nil, List.nil_append, List.length_nil, Nat.sub_zero]
 induction n with
 | zero => rfl
 | succ n ih => rw [List.replicate_succ, List.replicate_succ, List.flatten_cons, List.flatMap_cons, List.map_append, ih]; rfl
end Go.Ev.Ar
