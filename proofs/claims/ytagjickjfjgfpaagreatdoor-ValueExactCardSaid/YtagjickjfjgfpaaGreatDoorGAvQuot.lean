/- Contracts of the given functions, on data. Conditions stand in each theorem. -/
import Derived.Test.YtagjickjfjgfpaaGreatDoorGEvR
import Derived.Test.YtagjickjfjgfpaaGreatDoorGAvWDiv
import Derived.Test.YtagjickjfjgfpaaGreatDoorGAvDyL
import Derived.Test.YtagjickjfjgfpaaGreatDoorGAvRefA
set_option linter.unusedSimpArgs false
set_option linter.unusedVariables false
namespace Go.Ev.Ar
open Go Go.Ev Go.Proofs
theorem ale {k : Nat} {n : Int} (hl : (ofN k).length < 2^32) (h : (nb k : Int) = n) : Sim Tryz.prog G0 true 195 [sl (ofN k)] (.int .i64 n) := by
 have s := ae0 (ofN k) hl
 rwa [av, h] at s
theorem avx {k j : Nat} (n : Int) (hl : (ofN k).length < 2^30) (hn : n ≤ 2^30) (h : k * 2 ^ n.toNat = j) : Sim Tryz.prog G0 false 216 [sl (ofN k), .int .i64 n] (sl (ofN j)) := by
 have s := aj4 (ofN k) n hl hn
 rwa [av, h] at s
theorem azc {a b : Nat} {s : Int} (ha : (ofN a).length < 2^32) (hb : (ofN b).length < 2^32) (h : uv a b = s) : Sim Tryz.prog G0 true 225 [sl (ofN a), sl (ofN b)] (.int .i64 s) := by
 have s := ad3 (ofN a) (ofN b) ha hb
 rwa [av, av, h] at s
theorem awe {x : D} {m : Int} {r : Dyadic} (exact : Bool) (e mode : Int) (hx : ZR x m) (hm : Zt 134000000 m) (h1 : -1099511627776 ≤ e) (h2 : e ≤ 1099511627776) (h : dof (if mode = 1 ∧ exact = false then m + 1 else m) e = r) : Sim Tryz.prog G0 false 227 [x, .bool exact, .int .i64 e, .int .i64 mode] (dyD r) := by
 have hm1 : Zt 134217728 (m + 1) := hm.add (Zt.small (n := 1) (h := 64) (by decide) (by decide)) (by decide)
 have hz := hx
 obtain ⟨b, l, hl⟩ := hx
 refine an af Tryz.func227 ?_
 by_cases c : mode = 1
 ·cases exact
  ·rw [if_pos ⟨c, rfl⟩] at h
   repeat' ((conv => whnf); first | refine rgE ?_ | refine Cd.mk rfl ?_)
   refine amq af 0 rfl [2, 4, 8] [4, 8] (fun m xs h => m = 0 ∧ xs = [.d (.int .i64 e), .ptr 4 0, .ptr 8 0] ∧ h = [(8, false, zeA), (4, false, [.d (.bool b), .d (sl l)])]) ?_ ?_
   ·repeat' ((conv => whnf); first | with_reducible refine Br.bt fun _ => ?_ | refine rgE ?_ | refine Cd.mk rfl ?_ | refine Br.t ?_)
    exact ⟨_, _, _, ⟨.inl rfl, rfl, rfl, by first | rfl | (repeat first | exact all_nil _ | refine bn _ _ _ _ _ ?_)⟩, rfl, rfl, rfl⟩
   ·rintro m xs h ⟨rfl, rfl, rfl⟩
    repeat' ((conv => whnf); first | refine aa.mk _ _ (y6 1 (by decide) (by decide)) ?_ | refine aa.mk _ _ (x4 hz (cz (n := 1) (by decide)).1) ?_ | refine aa.mk _ _ (abz (.of hm1) hm1 h1 h2 h) ?_ | refine rgE ?_ | refine Cd.mk rfl ?_ | (refine TkE.fL ?_; (conv => whnf); fail_if_success (show ae _ _)) | refine Res.mk ?_ | ((with_reducible refine EqE.idS ?_); (refine EqE.fP ?_; (conv => whnf); fail_if_success (show ae _ _))) | refine Cd.ol ?_)
    rfl
  ·rw [if_neg (fun g => absurd g.2 (by decide))] at h
   repeat' ((conv => whnf); first | refine rgE ?_ | refine Cd.mk rfl ?_)
   refine ac1 af ?_
   repeat' ((conv => whnf); first | with_reducible refine ah.data ?_ | with_reducible refine Br.bt fun _ => ?_ | refine aa.mk _ _ (abz hz (hm.mono (by decide)) h1 h2 h) ?_ | refine rgE ?_ | refine Cd.mk rfl ?_ | refine Br.t ?_ | refine Br.f ?_ | (refine TkE.fL ?_; (conv => whnf); fail_if_success (show ae _ _)) | refine Res.mk ?_ | ((with_reducible refine EqE.idS ?_); (refine EqE.fP ?_; (conv => whnf); fail_if_success (show ae _ _))) | refine Cd.ol ?_)
   rfl
 ·rw [if_neg (fun g => c g.1)] at h
  repeat' ((conv => whnf); first | refine rgE ?_ | refine Cd.mk rfl ?_)
  refine ac1 af ?_
  repeat' ((conv => whnf); first | with_reducible refine ah.data ?_ | with_reducible refine Br.bf fun _ => ?_ | refine aa.mk _ _ (abz hz (hm.mono (by decide)) h1 h2 h) ?_ | refine rgE ?_ | refine Cd.mk rfl ?_ | refine Br.f ?_ | (refine TkE.fL ?_; (conv => whnf); fail_if_success (show ae _ _)) | refine Res.mk ?_ | ((with_reducible refine EqE.idS ?_); (refine EqE.fP ?_; (conv => whnf); fail_if_success (show ae _ _))) | refine Cd.ol ?_)
  rfl
structure QC (X Y : Dyadic) (P mode T : Int) : Prop where
 t1 : Sim Tryz.prog G0 true 212 [dyD X] (.int .i64 (db X))
 t2 : Sim Tryz.prog G0 true 212 [dyD Y] (.int .i64 (db Y))
 b1 : Sim Tryz.prog G0 true 195 [sl (ofN (aj X).natAbs)] (.int .i64 (nb (aj X).natAbs))
 b2 : Sim Tryz.prog G0 true 195 [sl (ofN (aj Y).natAbs)] (.int .i64 (nb (aj Y).natAbs))
 u1 : Sim Tryz.prog G0 false 216 [sl (ofN (aj X).natAbs), .int .i64 (0 - ((nb (aj X).natAbs : Int) - nb (aj Y).natAbs))] (sl (ofN ((aj X).natAbs * 2 ^ (-((nb (aj X).natAbs : Int) - nb (aj Y).natAbs)).toNat)))
 u2 : Sim Tryz.prog G0 false 216 [sl (ofN (aj Y).natAbs), .int .i64 ((nb (aj X).natAbs : Int) - nb (aj Y).natAbs)] (sl (ofN ((aj Y).natAbs * 2 ^ ((nb (aj X).natAbs : Int) - nb (aj Y).natAbs).toNat)))
 cm : Sim Tryz.prog G0 true 225 [sl (ofN ((aj X).natAbs * 2 ^ (-((nb (aj X).natAbs : Int) - nb (aj Y).natAbs)).toNat)), sl (ofN ((aj Y).natAbs * 2 ^ ((nb (aj X).natAbs : Int) - nb (aj Y).natAbs).toNat))] (.int .i64 (uv ((aj X).natAbs * 2 ^ (-((nb (aj X).natAbs : Int) - nb (aj Y).natAbs)).toNat) ((aj Y).natAbs * 2 ^ ((nb (aj X).natAbs : Int) - nb (aj Y).natAbs).toNat)))
 v1 : Sim Tryz.prog G0 false 186 [zD (aj X), .int .i64 (ar X - ar Y - (T - min (max P 1) 4000 + 1))] (zD (qA X Y P))
 v2 : Sim Tryz.prog G0 false 186 [zD (aj Y), .int .i64 (0 - (ar X - ar Y - (T - min (max P 1) 4000 + 1)))] (zD (qB X Y P))
 dv : Sim Tryz.prog G0 false 226 [zD (qA X Y P), zD (qB X Y P)] (.tup [zD (qA X Y P / qB X Y P), zD (qA X Y P % qB X Y P), .bool true])
 sg : Sim Tryz.prog G0 true 207 [zD (qA X Y P % qB X Y P)] (.int .i64 (Int.sign (qA X Y P % qB X Y P)))
 td : Sim Tryz.prog G0 false 227 [zD (qA X Y P / qB X Y P), .bool (decide (Int.sign (qA X Y P % qB X Y P) = 0)), .int .i64 (T - min (max P 1) 4000 + 1), .int .i64 mode] (dyD (po X Y P mode))
 r1 : -100000 ≤ db X ∧ db X ≤ 100000
 r2 : -100000 ≤ db Y ∧ db Y ≤ 100000
 r3 : nb (aj X).natAbs ≤ 200000
 r4 : nb (aj Y).natAbs ≤ 200000
 r5 : -100000 ≤ ar X ∧ ar X ≤ 100000
 r6 : -100000 ≤ ar Y ∧ ar Y ≤ 100000
theorem QC.of {X Y : Dyadic} {P mode T : Int} (hX : Ht 100000 X) (hY : Ht 100000 Y) (h0 : X ≠ 0) (hpos : 0 < Y) (hT : we X Y = T) : QC X Y P mode T := by
 obtain ⟨x1, x2, x3⟩ := hX.parts
 obtain ⟨y1, y2, y3⟩ := hY.parts
 have tx := aas hX
 have ty := aas hY
 have tt := aqt hX hY
 have lx := x1.len (k := 6250) (by decide)
 have ly := y1.len (k := 6250) (by decide)
 have nx := x1.nb
 have ny := y1.nb
 have hE : ig X Y P = T - min (max P 1) 4000 + 1 := by unfold ig; rw [hT]
 have eA : aj X * 2 ^ (ar X - ar Y - (T - min (max P 1) 4000 + 1)).toNat = qA X Y P := by unfold qA; rw [hE]
 have eB : aj Y * 2 ^ (-(ar X - ar Y - (T - min (max P 1) 4000 + 1))).toNat = qB X Y P := by unfold qB; rw [hE]
 have zA : Zt 900000 (qA X Y P) := eA ▸ x1.shl (by omega)
 have zB : Zt 900000 (qB X Y P) := eB ▸ y1.shl (by omega)
 have pB : 0 < qB X Y P := by unfold qB; exact Int.mul_pos (aap.2 hpos) (Int.pow_pos (by decide))
 have zq : Zt 900000 (qA X Y P / qB X Y P) := zA.le (Int.natAbs_ediv_le_natAbs _ _)
 have zr : Zt 900000 (qA X Y P % qB X Y P) := zB.le (by have := Int.emod_nonneg (qA X Y P) (Int.ne_of_gt pB); have := Int.emod_lt_of_pos (qA X Y P) pB; omega)
 have l1 : (ofN ((aj X).natAbs * 2 ^ (-((nb (aj X).natAbs : Int) - nb (aj Y).natAbs)).toNat)).length ≤ 20000 := by
  have h : Zt 400000 (aj X * 2 ^ (-((nb (aj X).natAbs : Int) - nb (aj Y).natAbs)).toNat) := x1.shl (by omega)
  have h2 := h.len (k := 20000) (by decide)
  rwa [Int.natAbs_mul, Int.natAbs_pow] at h2
 have l2 : (ofN ((aj Y).natAbs * 2 ^ ((nb (aj X).natAbs : Int) - nb (aj Y).natAbs).toNat)).length ≤ 20000 := by
  have h : Zt 400000 (aj Y * 2 ^ ((nb (aj X).natAbs : Int) - nb (aj Y).natAbs).toNat) := y1.shl (by omega)
  have h2 := h.len (k := 20000) (by decide)
  rwa [Int.natAbs_mul, Int.natAbs_pow] at h2
 refine ⟨afc (.of (hX.mono (by decide))), afc (.of (hY.mono (by decide))), ale (by omega) rfl, ale (by omega) rfl, avx _ (by omega) (by omega) (by rw [Int.zero_sub]), avx _ (by omega) (by omega) rfl, azc (by omega) (by omega) rfl, ?_, ?_, ?_, ?_, ?_, by omega, by omega, by omega, by omega, by omega, by omega⟩
 ·rw [← eA]; exact vy _ (.of (x1.mono (by decide))) (by omega)
 ·rw [← eB, Int.zero_sub]; exact vy _ (.of (y1.mono (by decide))) (by omega)
 ·exact axx (.of (zA.mono (by decide))) (.of (zB.mono (by decide))) pB (zA.mono (by decide)) (zB.mono (by decide))
 ·exact uo (.of (zr.mono (by decide)))
 ·refine awe _ _ _ (.of (zq.mono (by decide))) (zq.mono (by decide)) (by omega) (by omega) ?_
  unfold po
  rw [hE]
  congr 1
  by_cases c : qA X Y P % qB X Y P = 0
  ·rw [if_neg (fun g => absurd g.2 (by rw [c]; decide)), if_neg (fun g => g.2 c)]
  ·have e : decide (Int.sign (qA X Y P % qB X Y P) = 0) = false := decide_eq_false (fun g => c (Int.sign_eq_zero_iff_zero.1 g))
   rw [e]
   by_cases c2 : mode = 1
   ·rw [if_pos ⟨c2, rfl⟩, if_pos ⟨c2, c⟩]
   ·rw [if_neg (fun g => c2 g.1), if_neg (fun g => c2 g.1)]
theorem mh {a b : Nat} : uv a b < 0 ↔ a < b := by unfold uv; split <;> (try split) <;> omega
set_option maxHeartbeats 4000000 in
theorem aqk {x y : D} {p q r : Dyadic} {c : Int} (P mode : Int) (hx : DyR x p) (hy : DyR y q) (hp : Ht 100000 p) (hq : Ht 100000 q) (h : lg p q P mode = r) (hc : (if q = 0 then 11 else 0) = c) :
  Sim Tryz.prog G0 false 205 [x, y, .int .i64 P, .int .i64 mode] (.tup [dyD r, .int .i64 c]) := by
 have kx := hx
 have ky := hy
 have sp := gm (.of (hp.mono (show 100000 ≤ 1048576 by decide)))
 have sq := gm (.of (hq.mono (show 100000 ≤ 1048576 by decide)))
 have np := qj (.of (hp.mono (show 100000 ≤ 1048576 by decide)))
 have nq := qj (.of (hq.mono (show 100000 ≤ 1048576 by decide)))
 obtain ⟨b, l, e, hl, h1, h2, _⟩ := hx
 obtain ⟨d, k, f, hk, h3, h4, _⟩ := hy
 generalize dof (zv b l) e = p at *
 generalize dof (zv d k) f = q at *
 by_cases q0 : q = 0
 ·have e1 : lg p q P mode = 0 := by unfold lg; rw [if_pos q0]
  rw [if_pos q0] at hc
  have sq0 := jn.2 q0
  rw [sq0] at sq
  refine an af Tryz.func205 ?_
  repeat' ((conv => whnf); first | with_reducible refine ah.data ?_ | refine aa.mk _ _ (dg kx) ?_ | refine aa.mk _ _ (dg ky) ?_ | refine aa.mk _ _ (sq) ?_ | refine rgE ?_ | refine Cd.mk rfl ?_ | refine Br.t ?_ | (refine TkE.fL ?_; (conv => whnf); fail_if_success (show ae _ _)) | refine Res.mk ?_ | ((with_reducible refine EqE.idS ?_); (refine EqE.fP ?_; (conv => whnf); fail_if_success (show ae _ _))) | refine Cd.ol ?_)
  rw [← h, e1, ← hc, ← sw]; rfl
 by_cases p0 : p = 0
 ·have e1 : lg p q P mode = 0 := by unfold lg; rw [if_neg q0, if_pos p0]
  rw [if_neg q0] at hc
  have sp0 := jn.2 p0
  have sq0 : dsg q ≠ 0 := fun g => q0 (jn.1 g)
  rw [sp0] at sp
  refine an af Tryz.func205 ?_
  repeat' ((conv => whnf); first | with_reducible refine ah.data ?_ | with_reducible refine Br.bf fun _ => ?_ | refine aa.mk _ _ (dg kx) ?_ | refine aa.mk _ _ (dg ky) ?_ | refine aa.mk _ _ (sp) ?_ | refine aa.mk _ _ (sq) ?_ | refine rgE ?_ | refine Cd.mk rfl ?_ | refine Br.t ?_ | (refine TkE.fL ?_; (conv => whnf); fail_if_success (show ae _ _)) | refine Res.mk ?_ | ((with_reducible refine EqE.idS ?_); (refine EqE.fP ?_; (conv => whnf); fail_if_success (show ae _ _))) | refine Cd.ol ?_)
  rw [← h, e1, ← hc, ← sw]; rfl
 have sp0 : dsg p ≠ 0 := fun g => p0 (jn.1 g)
 have sq0 : dsg q ≠ 0 := fun g => q0 (jn.1 g)
 rw [if_neg q0] at hc
 rcases Classical.em (q < 0) with hqn | hqn
 ·have zn : a7 (aj q) = true := decide_eq_true (kg.2 hqn)
  rw [abe P mode p0 hqn] at h
  subst h
  by_cases c : (aj (-p)).natAbs * 2 ^ (-((nb (aj (-p)).natAbs : Int) - nb (aj (-q)).natAbs)).toNat < (aj (-q)).natAbs * 2 ^ ((nb (aj (-p)).natAbs : Int) - nb (aj (-q)).natAbs).toNat
  ·have Q : QC (-p) (-q) P mode (db (-p) - db (-q) - 1) := QC.of (hp.neg) (hq.neg) (fun g => p0 (by grind)) (show 0 < -q by grind) (by unfold we; rw [if_pos c])
   have cc := mh.2 c
   obtain ⟨t1, t2, b1, b2, u1, u2, cm, v1, v2, dv, sg, td, r1, r2, r3, r4, r5, r6⟩ := Q
   generalize po (-p) (-q) P mode = r at *
   generalize qA (-p) (-q) P / qB (-p) (-q) P = A at *
   generalize qA (-p) (-q) P % qB (-p) (-q) P = B at *
   refine an af Tryz.func205 ?_
   repeat' ((conv => whnf); first | with_reducible refine ah.data ?_ | with_reducible refine Br.bf fun _ => ?_ | with_reducible refine Br.bt fun _ => ?_ | refine Br.mk (fun _ => ?_) (fun g => absurd (zn.symm.trans g) (by decide)) | refine aa.mk _ _ (dg kx) ?_ | refine aa.mk _ _ (dg ky) ?_ | refine aa.mk _ _ (sp) ?_ | refine aa.mk _ _ (sq) ?_ | refine aa.mk _ _ (np) ?_ | refine aa.mk _ _ (nq) ?_ | refine aa.mk _ _ (t1) ?_ | refine aa.mk _ _ (t2) ?_ | refine aa.mk _ _ (b1) ?_ | refine aa.mk _ _ (b2) ?_ | refine aa.mk _ _ (u1) ?_ | refine aa.mk _ _ (u2) ?_ | refine aa.mk _ _ (cm) ?_ | refine aa.mk _ _ (qv _) ?_ | refine aa.mk _ _ (v1) ?_ | refine aa.mk _ _ (v2) ?_ | refine aa.mk _ _ (dv) ?_ | refine aa.mk _ _ (sg) ?_ | refine aa.mk _ _ (td) ?_ | refine rgE ?_ | refine Cd.mk rfl ?_ | refine ai.mk _ rfl ?_ | (refine TkE.fL ?_; (conv => whnf); fail_if_success (show ae _ _)) | refine Res.mk ?_ | ((with_reducible refine EqE.idW ?_); refine EqE.mk _ (ak (by omega) (by omega)) ?_) | ((with_reducible refine EqE.idS ?_); (refine EqE.fP ?_; (conv => whnf); fail_if_success (show ae _ _))) | refine Cd.ol ?_)
   rw [← hc]; rfl
  ·have Q : QC (-p) (-q) P mode (db (-p) - db (-q)) := QC.of (hp.neg) (hq.neg) (fun g => p0 (by grind)) (show 0 < -q by grind) (by unfold we; rw [if_neg c, Int.sub_zero])
   have cc := fun g => c (mh.1 g)
   obtain ⟨t1, t2, b1, b2, u1, u2, cm, v1, v2, dv, sg, td, r1, r2, r3, r4, r5, r6⟩ := Q
   generalize po (-p) (-q) P mode = r at *
   generalize qA (-p) (-q) P / qB (-p) (-q) P = A at *
   generalize qA (-p) (-q) P % qB (-p) (-q) P = B at *
   refine an af Tryz.func205 ?_
   repeat' ((conv => whnf); first | with_reducible refine ah.data ?_ | with_reducible refine Br.bf fun _ => ?_ | refine Br.mk (fun _ => ?_) (fun g => absurd (zn.symm.trans g) (by decide)) | refine aa.mk _ _ (dg kx) ?_ | refine aa.mk _ _ (dg ky) ?_ | refine aa.mk _ _ (sp) ?_ | refine aa.mk _ _ (sq) ?_ | refine aa.mk _ _ (np) ?_ | refine aa.mk _ _ (nq) ?_ | refine aa.mk _ _ (t1) ?_ | refine aa.mk _ _ (t2) ?_ | refine aa.mk _ _ (b1) ?_ | refine aa.mk _ _ (b2) ?_ | refine aa.mk _ _ (u1) ?_ | refine aa.mk _ _ (u2) ?_ | refine aa.mk _ _ (cm) ?_ | refine aa.mk _ _ (qv _) ?_ | refine aa.mk _ _ (v1) ?_ | refine aa.mk _ _ (v2) ?_ | refine aa.mk _ _ (dv) ?_ | refine aa.mk _ _ (sg) ?_ | refine aa.mk _ _ (td) ?_ | refine rgE ?_ | refine Cd.mk rfl ?_ | refine ai.mk _ rfl ?_ | (refine TkE.fL ?_; (conv => whnf); fail_if_success (show ae _ _)) | refine Res.mk ?_ | ((with_reducible refine EqE.idW ?_); refine EqE.mk _ (ak (by omega) (by omega)) ?_) | ((with_reducible refine EqE.idS ?_); (refine EqE.fP ?_; (conv => whnf); fail_if_success (show ae _ _))) | refine Cd.ol ?_)
   rw [← hc]; rfl
 ·have hq1 : 0 < q := by grind
  have zn : a7 (aj q) = false := decide_eq_false (fun g => hqn (kg.1 g))
  rw [tu P mode p0 hq1] at h
  subst h
  by_cases c : (aj p).natAbs * 2 ^ (-((nb (aj p).natAbs : Int) - nb (aj q).natAbs)).toNat < (aj q).natAbs * 2 ^ ((nb (aj p).natAbs : Int) - nb (aj q).natAbs).toNat
  ·have Q : QC p q P mode (db p - db q - 1) := QC.of (hp) (hq) (p0) (hq1) (by unfold we; rw [if_pos c])
   have cc := mh.2 c
   obtain ⟨t1, t2, b1, b2, u1, u2, cm, v1, v2, dv, sg, td, r1, r2, r3, r4, r5, r6⟩ := Q
   generalize po p q P mode = r at *
   generalize qA p q P / qB p q P = A at *
   generalize qA p q P % qB p q P = B at *
   refine an af Tryz.func205 ?_
   repeat' ((conv => whnf); first | with_reducible refine ah.data ?_ | with_reducible refine Br.bf fun _ => ?_ | with_reducible refine Br.bt fun _ => ?_ | refine Br.mk (fun g => absurd (zn.symm.trans g) (by decide)) (fun _ => ?_) | refine aa.mk _ _ (dg kx) ?_ | refine aa.mk _ _ (dg ky) ?_ | refine aa.mk _ _ (sp) ?_ | refine aa.mk _ _ (sq) ?_ | refine aa.mk _ _ (t1) ?_ | refine aa.mk _ _ (t2) ?_ | refine aa.mk _ _ (b1) ?_ | refine aa.mk _ _ (b2) ?_ | refine aa.mk _ _ (u1) ?_ | refine aa.mk _ _ (u2) ?_ | refine aa.mk _ _ (cm) ?_ | refine aa.mk _ _ (qv _) ?_ | refine aa.mk _ _ (v1) ?_ | refine aa.mk _ _ (v2) ?_ | refine aa.mk _ _ (dv) ?_ | refine aa.mk _ _ (sg) ?_ | refine aa.mk _ _ (td) ?_ | refine rgE ?_ | refine Cd.mk rfl ?_ | refine ai.mk _ rfl ?_ | (refine TkE.fL ?_; (conv => whnf); fail_if_success (show ae _ _)) | refine Res.mk ?_ | ((with_reducible refine EqE.idW ?_); refine EqE.mk _ (ak (by omega) (by omega)) ?_) | ((with_reducible refine EqE.idS ?_); (refine EqE.fP ?_; (conv => whnf); fail_if_success (show ae _ _))) | refine Cd.ol ?_)
   rw [← hc]; rfl
  ·have Q : QC p q P mode (db p - db q) := QC.of (hp) (hq) (p0) (hq1) (by unfold we; rw [if_neg c, Int.sub_zero])
   have cc := fun g => c (mh.1 g)
   obtain ⟨t1, t2, b1, b2, u1, u2, cm, v1, v2, dv, sg, td, r1, r2, r3, r4, r5, r6⟩ := Q
   generalize po p q P mode = r at *
   generalize qA p q P / qB p q P = A at *
   generalize qA p q P % qB p q P = B at *
   refine an af Tryz.func205 ?_
   repeat' ((conv => whnf); first | with_reducible refine ah.data ?_ | with_reducible refine Br.bf fun _ => ?_ | refine Br.mk (fun g => absurd (zn.symm.trans g) (by decide)) (fun _ => ?_) | refine aa.mk _ _ (dg kx) ?_ | refine aa.mk _ _ (dg ky) ?_ | refine aa.mk _ _ (sp) ?_ | refine aa.mk _ _ (sq) ?_ | refine aa.mk _ _ (t1) ?_ | refine aa.mk _ _ (t2) ?_ | refine aa.mk _ _ (b1) ?_ | refine aa.mk _ _ (b2) ?_ | refine aa.mk _ _ (u1) ?_ | refine aa.mk _ _ (u2) ?_ | refine aa.mk _ _ (cm) ?_ | refine aa.mk _ _ (qv _) ?_ | refine aa.mk _ _ (v1) ?_ | refine aa.mk _ _ (v2) ?_ | refine aa.mk _ _ (dv) ?_ | refine aa.mk _ _ (sg) ?_ | refine aa.mk _ _ (td) ?_ | refine rgE ?_ | refine Cd.mk rfl ?_ | refine ai.mk _ rfl ?_ | (refine TkE.fL ?_; (conv => whnf); fail_if_success (show ae _ _)) | refine Res.mk ?_ | ((with_reducible refine EqE.idW ?_); refine EqE.mk _ (ak (by omega) (by omega)) ?_) | ((with_reducible refine EqE.idS ?_); (refine EqE.fP ?_; (conv => whnf); fail_if_success (show ae _ _))) | refine Cd.ol ?_)
   rw [← hc]; rfl
end Go.Ev.Ar

namespace Go.Ev.Ar
open Go Go.Ev Go.Proofs
theorem ah8 {q : Dyadic} {p : Int} : rto q p 0 ≤ q ∧ q ≤ rto q p 1 := by
 unfold rto
 split
 ·rename_i h; rw [h]; grind
 ·obtain ⟨h1, h2, _⟩ := ab4 q (cp q p); exact ⟨h1, h2⟩
theorem aw3 {h K : Nat} {q : Dyadic} {p : Int} (mode : Int) (hm : mode = 0 ∨ mode = 1) (hq : Ht h q) (hp : min (max p 1) 4000 ≤ K) : Ht (h + 2 * K + 2) (rto q p mode) := by
 unfold rto
 split
 ·exact .zero _
 rename_i h0
 have tb := aas hq
 obtain ⟨k, hk⟩ := ai4 q (cp q p) 0
 obtain ⟨j, hj⟩ := ai4 q (cp q p) 1
 obtain ⟨g1, g2, g3, g4, _⟩ := ab4 q (cp q p)
 rw [hk] at g1 g3
 rw [hj] at g2 g4
 have s1 := wy k (cp q p)
 have s2 := wy (j - 1) (cp q p)
 rw [Int.sub_add_cancel] at s2
 have l := vj h0
 have e1 : dof (2 ^ (min (max p 1) 4000).toNat) (cp q p) = dof 1 (db q + 1) := by
  rw [aec _ _ (by omega)]; unfold cp; congr 1; omega
 have hu : -((h + K : Nat) : Int) ≤ cp q p ∧ cp q p ≤ ((h + K : Nat) : Int) := by unfold cp; omega
 have hK : (min (max p 1) 4000).toNat + 1 ≤ K + 1 := by omega
 rw [← e1] at l
 obtain ⟨l1, l2⟩ := wv.1 l
 have e2 := n8 (2 ^ (min (max p 1) 4000).toNat) (cp q p)
 have a1 : dof k (cp q p) < dof (2 ^ (min (max p 1) 4000).toNat) (cp q p) := by grind
 have a2 : dof (-(2 ^ (min (max p 1) 4000).toNat)) (cp q p) < dof (k + 1) (cp q p) := by grind
 have a3 : dof (j - 1) (cp q p) < dof (2 ^ (min (max p 1) 4000).toNat) (cp q p) := by grind
 have a4 : dof (-(2 ^ (min (max p 1) 4000).toNat)) (cp q p) < dof j (cp q p) := by grind
 rw [ml] at a1 a2 a3 a4
 rcases hm with rfl | rfl
 ·rw [hk]; exact Ht.dof ((y7 (by omega) (by omega)).mono hK) hu.1 hu.2 (by omega)
 ·rw [hj]; exact Ht.dof ((y7 (by omega) (by omega)).mono hK) hu.1 hu.2 (by omega)
def kr (z : Cq) (p : Int) : Cq := (rto z.1 p 0, rto z.2 p 1)
theorem _root_.Go.Ev.Hc.kr {h K : Nat} {z : Cq} {p : Int} (hz : Hc h z) (hp : min (max p 1) 4000 ≤ K) : Hc (h + 2 * K + 2) (kr z p) := ⟨aw3 0 (.inl rfl) hz.1 hp, aw3 1 (.inr rfl) hz.2 hp⟩
theorem yg (z : Cq) (p : Int) : iin z (kr z p) := ⟨ah8.1, ah8.2⟩
theorem afo {z : Cq} (p : Int) (h : Ord z) : Ord (kr z p) := aaz (ayo (yg z p) (auy h))
theorem _root_.Go.Ev.Hc.oy {h K : Nat} {z : Cq} {p : Int} (hz : Hc h z) (hp : min (max p 1) 4000 ≤ K) : Hc (h + 2 * K + 4) (oy z p) := ⟨(aqm 0 .one hz.2 hp).mono (by omega), (aqm 1 .one hz.1 hp).mono (by omega)⟩
def ap0 (z : Cq) (p : Int) : Cq × Int := if j5 z 0 then ((0, 0), 11) else (oy z p, 0)
def nf (z w : Cq) (p : Int) : Cq × Int := if j5 w 0 then ((0, 0), 11) else (kr (b7 z (oy w p)) p, 0)
theorem _root_.Go.Ev.Hc.zero (a : Nat) : Hc a (0, 0) := ⟨.zero _, .zero _⟩
theorem _root_.Go.Ev.Hc.nf {h g K : Nat} {z w : Cq} {p : Int} (hz : Hc h z) (hw : Hc g w) (hp : min (max p 1) 4000 ≤ K) : Hc (h + g + 4 * K + 6) (nf z w p).1 := by
 unfold Go.Ev.Ar.nf; split
 ·exact Go.Ev.Hc.zero _
 ·exact ((hz.b7 (hw.oy hp) (c := h + (g + 2 * K + 4)) (by omega)).kr hp).mono (by omega)
theorem wu : D.agg [.bool false, sl [], .int .i64 0, .bool false, sl [], .int .i64 0] = cxD (0, 0) := by rw [← bh]; rfl
theorem dy0 : DyR (.agg [.bool false, sl [], .int .i64 0]) 0 := DyR.mk false [] 0 (by decide) (by decide) (by decide) (Ht.zero _)
theorem aqx {x : D} {q r : Dyadic} (p mode : Int) (hx : DyR x q) (hq : Ht 100000 q) (h : rto q p mode = r) : Sim Tryz.prog G0 false 136 [x, .int .i64 p, .int .i64 mode] (dyD r) := h ▸ awt p mode hx hq
theorem z5 {x : D} {z r : Cq} (p : Int) (hx : CxR x z) (hz : Hc 100000 z) (h : kr (rof z) p = r) : Sim Tryz.prog G0 false 70 [x, .int .i64 p] (cxD r) := by
 subst h
 have hr := hz.rof
 have s := mz hx (hz.mono (by decide)) rfl
 generalize rof z = r at *
 obtain ⟨u, v⟩ := r
 have g1 := aqx p 0 (.of (hr.1.mono (by decide))) hr.1 rfl
 have g2 := aqx p 1 (.of (hr.2.mono (by decide))) hr.2 rfl
 obtain ⟨_, _⟩ := hx
 refine an af Tryz.func70 ?_
 repeat' ((conv => whnf); first | with_reducible refine ah.data ?_ | refine aa.mk _ _ (s) ?_ | refine aa.mk _ _ (g1) ?_ | refine aa.mk _ _ (g2) ?_ | refine rgE ?_ | refine Cd.mk rfl ?_ | (refine TkE.fL ?_; (conv => whnf); fail_if_success (show ae _ _)) | refine Res.mk ?_ | ((with_reducible refine EqE.idS ?_); (refine EqE.fP ?_; (conv => whnf); fail_if_success (show ae _ _))) | refine Cd.ol ?_)
 rfl
theorem al2 {x : D} {z r : Cq} {c : Int} (p : Int) (hx : CxR x z) (hz : Hc 50000 z) (h : ap0 (rof z) p = (r, c)) : Sim Tryz.prog G0 false 179 [x, .int .i64 p] (.tup [cxD r, .int .i64 c]) := by
 have hr := hz.rof
 have ho := lr z
 have s := mz hx (hz.mono (by decide)) rfl
 generalize rof z = w at *
 have g := awm (.of (hr.mono (by decide))) dy0 (hr.mono (by decide)) (Ht.zero _) rfl
 rw [cn ho] at g
 have one : Sim Tryz.prog G0 false 128 [.int .i64 1] (dyD 1) := so 1 (by decide) (by decide)
 obtain ⟨u, v⟩ := w
 have d1 := fun (q : Dyadic) (e : lg 1 v p 0 = q) (h0 : (if v = 0 then (11 : Int) else 0) = 0) => aqk p 0 (.of (Ht.one.mono (by decide))) (.of (hr.2.mono (by decide))) (Ht.one.mono (by decide)) (hr.2.mono (by decide)) e h0
 have d2 := fun (q : Dyadic) (e : lg 1 u p 1 = q) (h0 : (if u = 0 then (11 : Int) else 0) = 0) => aqk p 1 (.of (Ht.one.mono (by decide))) (.of (hr.1.mono (by decide))) (Ht.one.mono (by decide)) (hr.1.mono (by decide)) e h0
 obtain ⟨_, _⟩ := hx
 unfold ap0 at h
 by_cases c0 : j5 (u, v) 0
 ·rw [if_pos c0] at h
  rw [decide_eq_true c0] at g
  cases h
  refine an af Tryz.func179 ?_
  repeat' ((conv => whnf); first | with_reducible refine ah.data ?_ | refine aa.mk _ _ (s) ?_ | refine aa.mk _ _ (g) ?_ | refine rgE ?_ | refine Cd.mk rfl ?_ | refine Br.t ?_ | (refine TkE.fL ?_; (conv => whnf); fail_if_success (show ae _ _)) | refine Res.mk ?_ | ((with_reducible refine EqE.idS ?_); (refine EqE.fP ?_; (conv => whnf); fail_if_success (show ae _ _))) | refine Cd.ol ?_)
  show _ = D.tup [D.agg [.bool false, sl [], .int .i64 0, .bool false, sl [], .int .i64 0], _]
  rw [wu]; rfl
 ·rw [if_neg c0] at h
  rw [decide_eq_false c0] at g
  cases h
  have hs := ahf p ho c0
  have d1 := d1 _ rfl (if_neg (by rcases hs with k | k <;> grind))
  have d2 := d2 _ rfl (if_neg (by rcases hs with k | k <;> grind))
  refine an af Tryz.func179 ?_
  repeat' ((conv => whnf); first | with_reducible refine ah.data ?_ | refine aa.mk _ _ (s) ?_ | refine aa.mk _ _ (g) ?_ | refine aa.mk _ _ (one) ?_ | refine aa.mk _ _ (d1) ?_ | refine aa.mk _ _ (d2) ?_ | refine rgE ?_ | refine Cd.mk rfl ?_ | refine Br.f ?_ | refine ai.mk _ rfl ?_ | (refine TkE.fL ?_; (conv => whnf); fail_if_success (show ae _ _)) | refine Res.mk ?_ | ((with_reducible refine EqE.idS ?_); (refine EqE.fP ?_; (conv => whnf); fail_if_success (show ae _ _))) | refine Cd.ol ?_)
  rfl
theorem ay3 (p q : Dyadic) : mn p q = mn q p := by unfold mn; grind
theorem ay5 (p q : Dyadic) : mx p q = mx q p := by unfold mx; grind
theorem qm (z w : Cq) : b7 (rof z) w = b7 z w := by
 obtain ⟨p, q⟩ := z
 by_cases h : p ≤ q
 ·rw [cn (show Ord (p, q) from h)]
 ·have e : rof (p, q) = (q, p) := by unfold rof mn mx; dsimp only; congr 1 <;> grind
  rw [e]; unfold b7; dsimp only
  rw [ay3 (mn (q * w.1) _), ay5 (mx (q * w.1) _)]
theorem ahg (z w : Cq) : b7 z w = b7 w z := by
 unfold b7
 rw [Dyadic.mul_comm w.1 z.1, Dyadic.mul_comm w.1 z.2, Dyadic.mul_comm w.2 z.1, Dyadic.mul_comm w.2 z.2]
 generalize z.1 * w.1 = a
 generalize z.1 * w.2 = b
 generalize z.2 * w.1 = c
 generalize z.2 * w.2 = d
 unfold mn mx
 congr 1 <;> grind
theorem ar1 (z w : Cq) : b7 z (rof w) = b7 z w := by rw [ahg, qm, ahg]
end Go.Ev.Ar

namespace Go.Ev.Ar
open Go Go.Ev Go.Proofs
abbrev Rq := Cq × Cq
def c9 (z : Rq) : Rq := (rof z.1, rof z.2)
def ox (z : Rq) : Prop := Ord z.1 ∧ Ord z.2
def Hr (h : Nat) (z : Rq) : Prop := Hc h z.1 ∧ Hc h z.2
theorem _root_.Go.Ev.Ar.Hr.mono {a b : Nat} {z : Rq} (h : Hr a z) (hab : a ≤ b) : Hr b z := ⟨h.1.mono hab, h.2.mono hab⟩
theorem _root_.Go.Ev.Ar.Hr.c9 {a : Nat} {z : Rq} (h : Hr a z) : Hr a (c9 z) := ⟨h.1.rof, h.2.rof⟩
theorem al6 (z : Rq) : ox (c9 z) := ⟨lr _, lr _⟩
theorem ji {z : Rq} (h : ox z) : c9 z = z := Prod.ext (cn h.1) (cn h.2)
instance (z : Rq) : Decidable (ox z) := inferInstanceAs (Decidable (z.1.1 ≤ z.1.2 ∧ z.2.1 ≤ z.2.2))
def abh (z w : Rq) : Rq := (jc z.1 w.1, jc z.2 w.2)
def adw (z w : Rq) : Rq := (ve z.1 w.1, ve z.2 w.2)
def ij (z w : Rq) : Rq := (ve (b7 z.1 w.1) (b7 z.2 w.2), jc (b7 z.1 w.2) (b7 z.2 w.1))
def m5 (z : Rq) : Cq := jc (ib z.1 2) (ib z.2 2)
def rsq (z : Rq) : Rq := (ve (ib z.1 2) (ib z.2 2), jc (b7 z.1 z.2) (b7 z.1 z.2))
def ba (z : Rq) (p : Int) : Rq := (kr z.1 p, kr z.2 p)
def awk (z w : Rq) : Rq := (apz z.1 w.1, apz z.2 w.2)
def v9 (z : Rq) (p : Int) : Rq × Int := if j5 (m5 z) 0 then (((0, 0), (0, 0)), 11) else (((nf z.1 (m5 z) p).1, (nf (oz z.2) (m5 z) p).1), 0)
def fq (z w : Rq) (p : Int) : Rq × Int := if j5 (m5 w) 0 then (((0, 0), (0, 0)), 11) else (ba (ij z (v9 w p).1) p, 0)
theorem alx {z w : Rq} (h : ox z) (k : ox w) : ox (abh z w) := ⟨te h.1 k.1, te h.2 k.2⟩
theorem ame {z w : Rq} (h : ox z) (k : ox w) : ox (adw z w) := ⟨aa2 h.1 k.1, aa2 h.2 k.2⟩
theorem qu (z w : Rq) : ox (ij z w) := ⟨aa2 (jd _ _) (jd _ _), te (jd _ _) (jd _ _)⟩
theorem asj {z : Rq} (h : ox z) : Ord (m5 z) := te (oq 2 h.1) (oq 2 h.2)
theorem aqz {z : Rq} (h : ox z) : ox (rsq z) := ⟨aa2 (oq 2 h.1) (oq 2 h.2), te (jd _ _) (jd _ _)⟩
theorem vu {z : Rq} (p : Int) (h : ox z) : ox (ba z p) := ⟨afo p h.1, afo p h.2⟩
theorem Hr.abh {a b c : Nat} {z w : Rq} (h : Hr a z) (k : Hr b w) (hc : max a b < c) : Hr c (abh z w) := ⟨h.1.jc k.1 hc, h.2.jc k.2 hc⟩
theorem Hr.adw {a b c : Nat} {z w : Rq} (h : Hr a z) (k : Hr b w) (hc : max a b < c) : Hr c (adw z w) := ⟨h.1.ve k.1 hc, h.2.ve k.2 hc⟩
theorem Hr.ij {a b c : Nat} {z w : Rq} (h : Hr a z) (k : Hr b w) (hc : a + b < c) : Hr c (ij z w) :=
 ⟨(h.1.b7 k.1 (c := a + b) (Nat.le_refl _)).ve (h.2.b7 k.2 (c := a + b) (Nat.le_refl _)) (by omega), (h.1.b7 k.2 (c := a + b) (Nat.le_refl _)).jc (h.2.b7 k.1 (c := a + b) (Nat.le_refl _)) (by omega)⟩
theorem ac3 : kq 2 ≤ 2 := by decide
theorem Hr.m5 {a c : Nat} {z : Rq} (h : Hr a z) (hc : a * 2 + 1 < c) : Hc c (m5 z) := (h.1.ib 2 ac3 (c := a * 2 + 1) (by omega)).jc (h.2.ib 2 ac3 (c := a * 2 + 1) (by omega)) (by omega)
theorem Hr.rsq {a c : Nat} {z : Rq} (h : Hr a z) (hc : a * 2 + 1 < c) : Hr c (rsq z) := ⟨(h.1.ib 2 ac3 (c := a * 2 + 1) (by omega)).ve (h.2.ib 2 ac3 (c := a * 2 + 1) (by omega)) (by omega), (h.1.b7 h.2 (c := a * 2) (by omega)).jc (h.1.b7 h.2 (c := a * 2) (by omega)) (by omega)⟩
theorem Hr.ba {h K : Nat} {z : Rq} {p : Int} (hz : Hr h z) (hp : min (max p 1) 4000 ≤ K) : Hr (h + 2 * K + 2) (ba z p) := ⟨hz.1.kr hp, hz.2.kr hp⟩
theorem Hr.zero (a : Nat) : Hr a ((0, 0), (0, 0)) := ⟨Go.Ev.Hc.zero a, Go.Ev.Hc.zero a⟩
theorem Hr.v9 {h K : Nat} {z : Rq} {p : Int} (hz : Hr h z) (hp : min (max p 1) 4000 ≤ K) : Hr (h + (h * 2 + 2) + 4 * K + 6) (v9 z p).1 := by
 unfold Go.Ev.Ar.v9
 split
 ·exact Hr.zero _
 ·exact ⟨hz.1.nf (hz.m5 (by omega)) hp, hz.2.oz.nf (hz.m5 (by omega)) hp⟩
theorem Hr.fq {h g K : Nat} {z w : Rq} {p : Int} (hz : Hr h z) (hw : Hr g w) (hp : min (max p 1) 4000 ≤ K) : Hr (h + (g + (g * 2 + 2) + 4 * K + 6) + 1 + 2 * K + 2) (fq z w p).1 := by
 unfold Go.Ev.Ar.fq
 split
 ·exact Hr.zero _
 ·exact (hz.ij (hw.v9 hp) (c := h + (g + (g * 2 + 2) + 4 * K + 6) + 1) (by omega)).ba hp
def rqD (z : Rq) : D := rcD z.1 z.2
theorem RqR.of {z : Rq} (h : Hr 1048576 z) : RcR (rqD z) z.1 z.2 := .of h.1 h.2
theorem aq0 {x : D} {c : Cq} (hx : CxR x c) (hc : Hc 1000000 c) : Sim Tryz.prog G0 false 127 [x] (rqD ((c.1, c.1), (c.2, c.2))) := by
 obtain ⟨h1, h2⟩ := hx
 have g1 := ajt h1 hc.1
 have g2 := ajt h2 hc.2
 refine an af Tryz.func127 ?_
 repeat' ((conv => whnf); first | refine aa.mk _ _ (g1) ?_ | refine aa.mk _ _ (g2) ?_ | refine rgE ?_ | refine Cd.mk rfl ?_ | (refine TkE.fL ?_; (conv => whnf); fail_if_success (show ae _ _)) | refine Res.mk ?_ | ((with_reducible refine EqE.idS ?_); (refine EqE.fP ?_; (conv => whnf); fail_if_success (show ae _ _))) | refine Cd.ol ?_)
 rfl
theorem aw1 {x y : D} {z w r : Rq} (hx : RcR x z.1 z.2) (hy : RcR y w.1 w.2) (hz : Hr 1000000 z) (hw : Hr 1000000 w) (h : abh (c9 z) (c9 w) = r) : Sim Tryz.prog G0 false 131 [x, y] (rqD r) := by
 subst h
 obtain ⟨a, b⟩ := z
 obtain ⟨c, d⟩ := w
 obtain ⟨h1, h2⟩ := hx
 obtain ⟨h3, h4⟩ := hy
 have g1 := xr h1 h3 hz.1 hw.1 rfl
 have g2 := xr h2 h4 hz.2 hw.2 rfl
 refine an af Tryz.func131 ?_
 repeat' ((conv => whnf); first | refine aa.mk _ _ (g1) ?_ | refine aa.mk _ _ (g2) ?_ | refine rgE ?_ | refine Cd.mk rfl ?_ | (refine TkE.fL ?_; (conv => whnf); fail_if_success (show ae _ _)) | refine Res.mk ?_ | ((with_reducible refine EqE.idS ?_); (refine EqE.fP ?_; (conv => whnf); fail_if_success (show ae _ _))) | refine Cd.ol ?_)
 rfl
theorem aw2 {x y : D} {z w r : Rq} (hx : RcR x z.1 z.2) (hy : RcR y w.1 w.2) (hz : Hr 1000000 z) (hw : Hr 1000000 w) (h : adw (c9 z) (c9 w) = r) : Sim Tryz.prog G0 false 159 [x, y] (rqD r) := by
 subst h
 obtain ⟨a, b⟩ := z
 obtain ⟨c, d⟩ := w
 obtain ⟨h1, h2⟩ := hx
 obtain ⟨h3, h4⟩ := hy
 have g1 := abj h1 h3 hz.1 hw.1 rfl
 have g2 := abj h2 h4 hz.2 hw.2 rfl
 refine an af Tryz.func159 ?_
 repeat' ((conv => whnf); first | refine aa.mk _ _ (g1) ?_ | refine aa.mk _ _ (g2) ?_ | refine rgE ?_ | refine Cd.mk rfl ?_ | (refine TkE.fL ?_; (conv => whnf); fail_if_success (show ae _ _)) | refine Res.mk ?_ | ((with_reducible refine EqE.idS ?_); (refine EqE.fP ?_; (conv => whnf); fail_if_success (show ae _ _))) | refine Cd.ol ?_)
 rfl
theorem agi {x y : D} {z w r : Rq} (hx : RcR x z.1 z.2) (hy : RcR y w.1 w.2) (hz : Hr 200000 z) (hw : Hr 200000 w) (h : ij z w = r) : Sim Tryz.prog G0 false 129 [x, y] (rqD r) := by
 subst h
 obtain ⟨a, b⟩ := z
 obtain ⟨c, d⟩ := w
 obtain ⟨h1, h2⟩ := hx
 obtain ⟨h3, h4⟩ := hy
 have m1 := qt h1 h3 hz.1 hw.1 rfl
 have m2 := qt h2 h4 hz.2 hw.2 rfl
 have m3 := qt h1 h4 hz.1 hw.2 rfl
 have m4 := qt h2 h3 hz.2 hw.1 rfl
 have k1 : Hc 400000 (b7 a c) := hz.1.b7 hw.1 (by decide)
 have k2 : Hc 400000 (b7 b d) := hz.2.b7 hw.2 (by decide)
 have k3 : Hc 400000 (b7 a d) := hz.1.b7 hw.2 (by decide)
 have k4 : Hc 400000 (b7 b c) := hz.2.b7 hw.1 (by decide)
 have s := abj (r := ve (b7 a c) (b7 b d)) (.of (k1.mono (by decide))) (.of (k2.mono (by decide))) (k1.mono (by decide)) (k2.mono (by decide)) (by rw [cn (jd _ _), cn (jd _ _)])
 have t := xr (r := jc (b7 a d) (b7 b c)) (.of (k3.mono (by decide))) (.of (k4.mono (by decide))) (k3.mono (by decide)) (k4.mono (by decide)) (by rw [cn (jd _ _), cn (jd _ _)])
 unfold ij; dsimp only
 generalize ve (b7 a c) (b7 b d) = S at *
 generalize jc (b7 a d) (b7 b c) = T at *
 generalize b7 a c = M1 at *
 generalize b7 b d = M2 at *
 generalize b7 a d = M3 at *
 generalize b7 b c = M4 at *
 obtain ⟨_, _⟩ := M1
 obtain ⟨_, _⟩ := M2
 obtain ⟨_, _⟩ := M3
 obtain ⟨_, _⟩ := M4
 obtain ⟨_, _⟩ := S
 obtain ⟨_, _⟩ := T
 refine an af Tryz.func129 ?_
 repeat' ((conv => whnf); first | refine aa.mk _ _ (m1) ?_ | refine aa.mk _ _ (m2) ?_ | refine aa.mk _ _ (m3) ?_ | refine aa.mk _ _ (m4) ?_ | refine aa.mk _ _ (s) ?_ | refine aa.mk _ _ (t) ?_ | refine rgE ?_ | refine Cd.mk rfl ?_ | (refine TkE.fL ?_; (conv => whnf); fail_if_success (show ae _ _)) | refine Res.mk ?_ | ((with_reducible refine EqE.idS ?_); (refine EqE.fP ?_; (conv => whnf); fail_if_success (show ae _ _))) | refine Cd.ol ?_)
 rfl
theorem au0 {m : Cq} (h : Ord m) : b7 m (dof 2 0, dof 2 0) = jc m m := by
 obtain ⟨p, q⟩ := m
 unfold Ord at h; dsimp only at h
 have e : ∀ d : Dyadic, d * dof 2 0 = d + d := fun d => by
  rw [show dof 2 0 = 1 + 1 by decide]; grind
 unfold b7 jc; dsimp only
 rw [e, e]
 unfold mn mx
 congr 1 <;> grind
theorem aou {x : D} {m r : Cq} (hx : CxR x m) (hm : Hc 200000 m) (h : b7 m (dof 2 0, dof 2 0) = r) : Sim Tryz.prog G0 false 181 [x] (cxD r) := by
 have ht : Ht 164 (dof 2 0) := Ht.cst (by decide)
 have s1 := ajt (.of (ht.mono (show 164 ≤ 1048576 by decide))) (ht.mono (by decide))
 have h2 : Hc 164 (dof 2 0, dof 2 0) := ⟨ht, ht⟩
 have s2 := qt hx (.of (h2.mono (by decide))) hm (h2.mono (by decide)) h
 obtain ⟨_, _⟩ := hx
 refine an af Tryz.func181 ?_
 repeat' ((conv => whnf); first | refine aa.mk _ _ (so 2 (by decide) (by decide)) ?_ | refine aa.mk _ _ (s1) ?_ | refine aa.mk _ _ (s2) ?_ | refine rgE ?_ | refine Cd.mk rfl ?_ | (refine TkE.fL ?_; (conv => whnf); fail_if_success (show ae _ _)) | refine Res.mk ?_ | ((with_reducible refine EqE.idS ?_); (refine EqE.fP ?_; (conv => whnf); fail_if_success (show ae _ _))) | refine Cd.ol ?_)
 rfl
theorem asq {x y : D} {z w r : Rq} (hx : RcR x z.1 z.2) (hy : RcR y w.1 w.2) (hz : Hr 1000000 z) (hw : Hr 1000000 w) (h : awk (c9 z) (c9 w) = r) : Sim Tryz.prog G0 false 105 [x, y] (rqD r) := by
 subst h
 obtain ⟨a, b⟩ := z
 obtain ⟨c, d⟩ := w
 obtain ⟨h1, h2⟩ := hx
 obtain ⟨h3, h4⟩ := hy
 have g1 := ah4 h1 h3 hz.1 hw.1 rfl
 have g2 := ah4 h2 h4 hz.2 hw.2 rfl
 refine an af Tryz.func105 ?_
 repeat' ((conv => whnf); first | refine aa.mk _ _ (g1) ?_ | refine aa.mk _ _ (g2) ?_ | refine rgE ?_ | refine Cd.mk rfl ?_ | (refine TkE.fL ?_; (conv => whnf); fail_if_success (show ae _ _)) | refine Res.mk ?_ | ((with_reducible refine EqE.idS ?_); (refine EqE.fP ?_; (conv => whnf); fail_if_success (show ae _ _))) | refine Cd.ol ?_)
 rfl
theorem z7 {x : D} {z r : Rq} (p : Int) (hx : RcR x z.1 z.2) (hz : Hr 100000 z) (h : ba (c9 z) p = r) : Sim Tryz.prog G0 false 134 [x, .int .i64 p] (rqD r) := by
 subst h
 obtain ⟨a, b⟩ := z
 obtain ⟨h1, h2⟩ := hx
 have g1 := z5 p h1 hz.1 rfl
 have g2 := z5 p h2 hz.2 rfl
 refine an af Tryz.func134 ?_
 repeat' ((conv => whnf); first | refine aa.mk _ _ (g1) ?_ | refine aa.mk _ _ (g2) ?_ | refine rgE ?_ | refine Cd.mk rfl ?_ | (refine TkE.fL ?_; (conv => whnf); fail_if_success (show ae _ _)) | refine Res.mk ?_ | ((with_reducible refine EqE.idS ?_); (refine EqE.fP ?_; (conv => whnf); fail_if_success (show ae _ _))) | refine Cd.ol ?_)
 rfl
theorem amc : D.agg [.bool false, sl [], .int .i64 0, .bool false, sl [], .int .i64 0, .bool false, sl [], .int .i64 0, .bool false, sl [], .int .i64 0] = rqD ((0, 0), (0, 0)) := by rw [← bh]; rfl
end Go.Ev.Ar

namespace Go.Ev.Ar
open Go Go.Ev Go.Proofs
theorem aom (z w : Rq) : ij (c9 z) w = ij z w := by
 unfold ij c9; dsimp only
 rw [qm, qm, qm, qm]
theorem azv (z : Rq) (p : Int) : (v9 z p).2 = if j5 (m5 z) 0 then 11 else 0 := by unfold v9; split <;> rfl
end Go.Ev.Ar

namespace Go.Ev.Ar
open Go Go.Ev Go.Proofs
def aw (a b : Cq) : Cq := (a.1 * b.1 - a.2 * b.2, a.1 * b.2 + a.2 * b.1)
def o7 (a : Cq) : Dyadic := a.1 * a.1 + a.2 * a.2
def cpw (a : Cq) : Nat → Cq
 | 0 => (1, 0)
 | n + 1 => aw (cpw a n) a
def ptR (c : Cq) : Rq := ((c.1, c.1), (c.2, c.2))
end Go.Ev.Ar

namespace Go.Ev.Ar
open Go Go.Ev Go.Proofs
theorem alw {x : D} {z r : Cq} (hx : CxF x z) (hz : Hc 48000 z) (h : rof z = r) : Sim Tryz.prog G0 false 25 [x] (cxD r) := by
 subst h
 have hd := hz.1.sub hz.2 (c := 50000) (by decide)
 obtain ⟨hp, hq⟩ := hx
 rename_i p q
 have hp' := hz.1.mono (show 48000 ≤ 49000 by decide)
 have hq' := hz.2.mono (show 48000 ≤ 49000 by decide)
 dsimp only at hp' hq'
 refine an af Tryz.func25 ?_
 repeat' ((conv => whnf); first | with_reducible refine ah.data ?_ | refine aa.mk _ _ (vp hp) ?_ | refine aa.mk _ _ (vp hq) ?_ | refine aa.mk _ _ (uc (p := p) (q := q) hp' hq' hd) ?_ | refine rgE ?_ | refine Cd.mk rfl ?_ | with_reducible refine Br.dec (fun _ => ?_) (fun _ => ?_) | (refine TkE.fL ?_; (conv => whnf); fail_if_success (show ae _ _)) | refine Res.mk ?_ | ((with_reducible refine EqE.idS ?_); (refine EqE.fP ?_; (conv => whnf); fail_if_success (show ae _ _))) | refine Cd.ol ?_)
 ·rename_i h
  unfold rof mn mx; dsimp only
  have h1 := ang.1 h
  rw [if_neg (fun g => by rw [← j0] at g; omega), if_pos (by grind)]; rfl
 ·rename_i h
  have h1 : p ≤ q := j0.1 (by omega)
  rw [show rof (p, q) = (p, q) from cn h1]; rfl
theorem aqu {z : Cq} {d : Dyadic} {t : Bool} (hz : Hc 48000 z) (hd : Ht 48000 d) (h : decide (j5 z d) = t) : Sim Tryz.prog G0 true 28 [cxD z, dyD d] (.bool t) := by
 subst h
 obtain ⟨p, q⟩ := z
 have h1 := hz.1.sub hd (c := 50000) (by decide)
 have h2 := hd.sub hz.2 (c := 50000) (by decide)
 refine an af Tryz.func28 ?_
 repeat' ((conv => whnf); first | with_reducible refine ah.data ?_ | refine aa.mk _ _ (uc (p := p) (q := d) (hz.1.mono (by decide)) (hd.mono (by decide)) h1) ?_ | refine aa.mk _ _ (uc (p := d) (q := q) (hd.mono (by decide)) (hz.2.mono (by decide)) h2) ?_ | refine rgE ?_ | refine Cd.mk rfl ?_ | refine Br.t ?_ | refine Br.f ?_ | with_reducible refine Br.dec (fun _ => ?_) (fun _ => ?_) | (refine TkE.fL ?_; (conv => whnf); fail_if_success (show ae _ _)) | refine Res.mk ?_)
 ·rename_i h
  refine congrArg D.bool (decide_eq_decide.2 ?_)
  rw [j0] at h ⊢
  exact ⟨fun g => g.2, fun g => ⟨h, g⟩⟩
 ·rename_i h
  rw [j0] at h
  exact congrArg D.bool (decide_eq_false fun g => h g.1)
end Go.Ev.Ar

namespace Go.Ev.Ar
open Go Go.Ev Go.Proofs
theorem eu {a : Cq} {t : Bool} (ha : Hc 50000 a) (h : decide (a = (0, 0)) = t) : Sim Tryz.prog G0 true 50 [cxD a] (.bool t) := by
 subst h
 obtain ⟨a1, a2⟩ := ha
 obtain ⟨p, q⟩ := a
 have e1 : dsg p = 0 ↔ p = 0 := jn
 have e2 : dsg q = 0 ↔ q = 0 := jn
 refine an af Tryz.func50 ?_
 repeat' ((conv => whnf); first | with_reducible refine ah.data ?_ | refine aa.mk _ _ (zw (p := p) a1) ?_ | refine aa.mk _ _ (zw (p := q) a2) ?_ | refine rgE ?_ | refine Cd.mk rfl ?_ | refine Br.t ?_ | refine Br.f ?_ | with_reducible refine Br.dec (fun _ => ?_) (fun _ => ?_) | (refine TkE.fL ?_; (conv => whnf); fail_if_success (show ae _ _)) | refine Res.mk ?_)
 ·rename_i h
  refine congrArg D.bool (decide_eq_decide.2 ?_)
  rw [Prod.mk.injEq, e2, e1.1 h]; simp
 ·rename_i h
  refine congrArg D.bool (decide_eq_false ?_)
  rw [Prod.mk.injEq]; exact fun g => h (e1.2 g.1)
theorem asc {a w : Cq} (ha : Hc 50000 a) (h : (-a.1, -a.2) = w) : Sim Tryz.prog G0 false 155 [cxD a] (cxD w) := by
 subst h
 obtain ⟨a1, a2⟩ := ha
 obtain ⟨p, q⟩ := a
 refine an af Tryz.func155 ?_
 repeat' ((conv => whnf); first | refine aa.mk _ _ (yq (p := p) a1) ?_ | refine aa.mk _ _ (yq (p := q) a2) ?_ | refine rgE ?_ | refine Cd.mk rfl ?_ | (refine TkE.fL ?_; (conv => whnf); fail_if_success (show ae _ _)) | refine Res.mk ?_ | ((with_reducible refine EqE.idS ?_); (refine EqE.fP ?_; (conv => whnf); fail_if_success (show ae _ _))) | refine Cd.ol ?_)
 rfl
end Go.Ev.Ar

namespace Go.Ev.Ar
open Go Go.Ev Go.Proofs
inductive RcF : D → Cq → Cq → Prop where
 | mk {b : Bool} {l : List UInt32} {e : Int} {c : Bool} {k : List UInt32} {f : Int} {b' : Bool} {l' : List UInt32} {e' : Int} {c' : Bool} {k' : List UInt32} {f' : Int} {z w : Cq}
  (h1 : CxF (.agg [.bool b, sl l, .int .i64 e, .bool c, sl k, .int .i64 f]) z) (h2 : CxF (.agg [.bool b', sl l', .int .i64 e', .bool c', sl k', .int .i64 f']) w) :
  RcF (.agg [.bool b, sl l, .int .i64 e, .bool c, sl k, .int .i64 f, .bool b', sl l', .int .i64 e', .bool c', sl k', .int .i64 f']) z w
theorem awf {x : D} {z r : Rq} (hx : RcF x z.1 z.2) (hz : Hr 48000 z) (h : c9 z = r) : Sim Tryz.prog G0 false 55 [x] (rqD r) := by
 subst h
 obtain ⟨a, b⟩ := z
 obtain ⟨h1, h2⟩ := hx
 have g1 := alw h1 hz.1 rfl
 have g2 := alw h2 hz.2 rfl
 refine an af Tryz.func55 ?_
 repeat' ((conv => whnf); first | refine aa.mk _ _ (g1) ?_ | refine aa.mk _ _ (g2) ?_ | refine rgE ?_ | refine Cd.mk rfl ?_ | (refine TkE.fL ?_; (conv => whnf); fail_if_success (show ae _ _)) | refine Res.mk ?_ | ((with_reducible refine EqE.idS ?_); (refine EqE.fP ?_; (conv => whnf); fail_if_success (show ae _ _))) | refine Cd.ol ?_)
 rfl
theorem asb (c : Cq) : Sim Tryz.prog G0 false 34 [cxD c] (rqD ((c.1, c.1), (c.2, c.2))) := by
 obtain ⟨_, _⟩ := c
 refine an af Tryz.func34 ?_
 repeat' ((conv => whnf); first | refine rgE ?_ | refine Cd.mk rfl ?_ | (refine TkE.fL ?_; (conv => whnf); fail_if_success (show ae _ _)) | refine Res.mk ?_ | ((with_reducible refine EqE.idS ?_); (refine EqE.fP ?_; (conv => whnf); fail_if_success (show ae _ _))) | refine Cd.ol ?_)
 rfl
theorem azt {a b : Cq} {t : Bool} (ha : Hc 50000 a) (hb : Hc 50000 b) (h : decide (a = b) = t) : Sim Tryz.prog G0 true 49 [cxD a, cxD b] (.bool t) := by
 subst h
 refine an af Tryz.func49 ?_
 repeat' ((conv => whnf); first | with_reducible refine ah.data ?_ | refine aa.mk _ _ (vr ha.1 hb.1) ?_ | refine aa.mk _ _ (vr ha.2 hb.2) ?_ | refine rgE ?_ | refine Cd.mk rfl ?_ | refine Br.t ?_ | refine Br.f ?_ | with_reducible refine Br.dec (fun _ => ?_) (fun _ => ?_) | (refine TkE.fL ?_; (conv => whnf); fail_if_success (show ae _ _)) | refine Res.mk ?_)
 ·rename_i h
  refine congrArg D.bool (decide_eq_decide.2 ?_)
  rw [Prod.ext_iff]; exact ⟨fun g => g.2, fun g => ⟨h, g⟩⟩
 ·rename_i h
  exact congrArg D.bool (decide_eq_false fun g => h (by rw [g]))
theorem alv {z : Rq} {c : Cq} {t : Bool} (hz : Hr 48000 z) (hc : Hc 48000 c) (h : decide (j5 z.1 c.1 ∧ j5 z.2 c.2) = t) : Sim Tryz.prog G0 true 41 [rqD z, cxD c] (.bool t) := by
 subst h
 obtain ⟨⟨_, _⟩, ⟨_, _⟩⟩ := z
 obtain ⟨_, _⟩ := c
 have g1 := aqu hz.1 hc.1 rfl
 have g2 := aqu hz.2 hc.2 rfl
 refine an af Tryz.func41 ?_
 repeat' ((conv => whnf); first | with_reducible refine ah.data ?_ | refine aa.mk _ _ (g1) ?_ | refine aa.mk _ _ (g2) ?_ | refine rgE ?_ | refine Cd.mk rfl ?_ | refine Br.t ?_ | refine Br.f ?_ | with_reducible refine Br.dec (fun _ => ?_) (fun _ => ?_) | (refine TkE.fL ?_; (conv => whnf); fail_if_success (show ae _ _)) | refine Res.mk ?_)
 ·rename_i h
  exact congrArg D.bool (decide_eq_decide.2 ⟨fun g => g.2, fun g => ⟨h, g⟩⟩)
 ·rename_i h
  exact congrArg D.bool (decide_eq_false fun g => h g.1)
end Go.Ev.Ar

namespace Go.Ev.Ar
open Go Go.Ev Go.Proofs
theorem auj (m n : Int) (h1 : -9223372036854775808 ≤ m) (h2 : m ≤ 9223372036854775807) (h3 : -9223372036854775808 ≤ n) (h4 : n ≤ 9223372036854775807) : Sim Tryz.prog G0 false 90 [.int .i64 m, .int .i64 n] (cxD (dof m 0, dof n 0)) := by
 refine an af Tryz.func90 ?_
 repeat' ((conv => whnf); first | with_reducible refine ah.data ?_ | refine aa.mk _ _ (so m h1 h2) ?_ | refine aa.mk _ _ (so n h3 h4) ?_ | refine rgE ?_ | refine Cd.mk rfl ?_ | (refine TkE.fL ?_; (conv => whnf); fail_if_success (show ae _ _)) | refine Res.mk ?_ | ((with_reducible refine EqE.idS ?_); (refine EqE.fP ?_; (conv => whnf); fail_if_success (show ae _ _))) | refine Cd.ol ?_)
 rfl
theorem ayk {x : D} {a r : Cq} (hx : CxR x a) (h : (-a.1, -a.2) = r) : Sim Tryz.prog G0 false 93 [x] (cxD r) := by
 subst h
 obtain ⟨h1, h2⟩ := hx
 refine an af Tryz.func93 ?_
 repeat' ((conv => whnf); first | refine aa.mk _ _ (qj h1) ?_ | refine aa.mk _ _ (qj h2) ?_ | refine rgE ?_ | refine Cd.mk rfl ?_ | (refine TkE.fL ?_; (conv => whnf); fail_if_success (show ae _ _)) | refine Res.mk ?_ | ((with_reducible refine EqE.idS ?_); (refine EqE.fP ?_; (conv => whnf); fail_if_success (show ae _ _))) | refine Cd.ol ?_)
 rfl
theorem aay {x y : D} {a b r : Cq} (hx : CxR x a) (hy : CxR y b) (ha : Hc 200000 a) (hb : Hc 200000 b) (h : aw a b = r) : Sim Tryz.prog G0 false 152 [x, y] (cxD r) := by
 subst h
 have a1 : Ht 1048576 (a.1 * b.1) := (ha.1.mul hb.1 (c := 400000) (by decide)).mono (by decide)
 have a2 : Ht 1048576 (a.2 * b.2) := (ha.2.mul hb.2 (c := 400000) (by decide)).mono (by decide)
 have a3 : Ht 1048576 (a.1 * b.2) := (ha.1.mul hb.2 (c := 400000) (by decide)).mono (by decide)
 have a4 : Ht 1048576 (a.2 * b.1) := (ha.2.mul hb.1 (c := 400000) (by decide)).mono (by decide)
 obtain ⟨h1, h2⟩ := hx
 obtain ⟨h3, h4⟩ := hy
 dsimp only at a1 a2 a3 a4
 have s1 := oi h1 h3
 have s2 := oi h2 h4
 have s3 := oi h1 h4
 have s4 := oi h2 h3
 have s5 := akm (DyR.of a1) (DyR.of a2)
 have s6 := sj (DyR.of a3) (DyR.of a4)
 refine an af Tryz.func152 ?_
 repeat' ((conv => whnf); first | refine aa.mk _ _ (s1) ?_ | refine aa.mk _ _ (s2) ?_ | refine aa.mk _ _ (s3) ?_ | refine aa.mk _ _ (s4) ?_ | refine aa.mk _ _ (s5) ?_ | refine aa.mk _ _ (s6) ?_ | refine rgE ?_ | refine Cd.mk rfl ?_ | (refine TkE.fL ?_; (conv => whnf); fail_if_success (show ae _ _)) | refine Res.mk ?_ | ((with_reducible refine EqE.idS ?_); (refine EqE.fP ?_; (conv => whnf); fail_if_success (show ae _ _))) | refine Cd.ol ?_)
 rfl
theorem aul {x : D} {a : Cq} {t : Bool} (hx : CxR x a) (h : decide (a = (0, 0)) = t) : Sim Tryz.prog G0 true 153 [x] (.bool t) := by
 subst h
 obtain ⟨h1, h2⟩ := hx
 rename_i b l e c k f p q
 have e1 : dsg p = 0 ↔ p = 0 := jn
 have e2 : dsg q = 0 ↔ q = 0 := jn
 have s1 := gm h1
 have s2 := gm h2
 refine an af Tryz.func153 ?_
 repeat' ((conv => whnf); first | with_reducible refine ah.data ?_ | refine aa.mk _ _ (s1) ?_ | refine aa.mk _ _ (s2) ?_ | refine rgE ?_ | refine Cd.mk rfl ?_ | refine Br.t ?_ | refine Br.f ?_ | with_reducible refine Br.dec (fun _ => ?_) (fun _ => ?_) | (refine TkE.fL ?_; (conv => whnf); fail_if_success (show ae _ _)) | refine Res.mk ?_)
 ·rename_i h
  refine congrArg D.bool (decide_eq_decide.2 ?_)
  rw [Prod.mk.injEq, e2, e1.1 h]; simp
 ·rename_i h
  refine congrArg D.bool (decide_eq_false ?_)
  rw [Prod.mk.injEq]; exact fun g => h (e1.2 g.1)
theorem y0 {q : Dyadic} (hq : Ht 9000 q) : Sim Tryz.prog G0 true 154 [dyD q] (.bool true) := by
 obtain ⟨h1, h2, h3⟩ := hq.parts
 have s1 := a05 (hq.mono (show 9000 ≤ 20000 by decide))
 have hl : (ofN (aj q).natAbs).length < 2 ^ 32 := Nat.lt_of_le_of_lt (h1.len (k := 65536) (by decide)) (by decide)
 have s2 := ae0 (ofN (aj q).natAbs) hl
 have hb : nb (nv (ofN (aj q).natAbs)) ≤ 18000 := by rw [av]; exact Zt.nb h1
 refine an af Tryz.func154 ?_
 repeat' ((conv => whnf); first | with_reducible refine ah.data ?_ | refine aa.mk _ _ (s1) ?_ | refine aa.mk _ _ (s2) ?_ | refine rgE ?_ | refine Cd.mk rfl ?_ | refine Br.t ?_ | refine ai.mk _ rfl ?_ | (refine TkE.fL ?_; (conv => whnf); fail_if_success (show ae _ _)) | refine Res.mk ?_)
 exact congrArg D.bool (decide_eq_true (by omega)).symm
def df (p q : Rq) : Rq := (aw p.1 q.1, aw p.2 q.2)
def rr (p q : Rq) : Rq := if p.2 = q.2 then ((p.1.1 + q.1.1, p.1.2 + q.1.2), p.2) else (((aw p.1 q.2).1 + (aw q.1 p.2).1, (aw p.1 q.2).2 + (aw q.1 p.2).2), aw p.2 q.2)
theorem Hc.aw {a b c : Nat} {z w : Cq} (h : Hc a z) (k : Hc b w) (hc : a + b < c) : Hc c (Ar.aw z w) :=
 ⟨(h.1.mul k.1 (Nat.le_refl _)).sub (h.2.mul k.2 (Nat.le_refl _)) (by omega), (h.1.mul k.2 (Nat.le_refl _)).add (h.2.mul k.1 (Nat.le_refl _)) (by omega)⟩
theorem acv {p q r : Rq} (hp : Hr 9000 p) (hq : Hr 9000 q) (h : df p q = r) : Sim Tryz.prog G0 false 94 [rqD p, rqD q] (rqD r) := by
 have s1 := aay (r := r.1) (CxR.of (hp.1.mono (by decide))) (CxR.of (hq.1.mono (by decide))) (hp.1.mono (by decide)) (hq.1.mono (by decide)) (congrArg Prod.fst h)
 have s2 := aay (r := r.2) (CxR.of (hp.2.mono (by decide))) (CxR.of (hq.2.mono (by decide))) (hp.2.mono (by decide)) (hq.2.mono (by decide)) (congrArg Prod.snd h)
 clear h hp hq
 obtain ⟨⟨_, _⟩, ⟨_, _⟩⟩ := p
 obtain ⟨⟨_, _⟩, ⟨_, _⟩⟩ := q
 obtain ⟨⟨_, _⟩, ⟨_, _⟩⟩ := r
 refine an af Tryz.func94 ?_
 repeat' ((conv => whnf); first | refine aa.mk _ _ (s1) ?_ | refine aa.mk _ _ (s2) ?_ | refine rgE ?_ | refine Cd.mk rfl ?_ | (refine TkE.fL ?_; (conv => whnf); fail_if_success (show ae _ _)) | refine Res.mk ?_ | ((with_reducible refine EqE.idS ?_); (refine EqE.fP ?_; (conv => whnf); fail_if_success (show ae _ _))) | refine Cd.ol ?_)
 rfl
theorem ama {p q r : Rq} (hp : Hr 9000 p) (hq : Hr 9000 q) (h : rr p q = r) : Sim Tryz.prog G0 false 92 [rqD p, rqD q] (rqD r) := by
 obtain ⟨t, ht⟩ : ∃ t, decide (p.2 = q.2) = t := ⟨_, rfl⟩
 have s0 := auk (CxR.of (hp.2.mono (show 9000 ≤ 1048576 by decide))) (CxR.of (hq.2.mono (show 9000 ≤ 1048576 by decide))) (hp.2.mono (by decide)) (hq.2.mono (by decide)) ht
 have s1 := apw (CxR.of (hp.1.mono (show 9000 ≤ 1048576 by decide))) (CxR.of (hq.1.mono (show 9000 ≤ 1048576 by decide))) rfl
 have s2 := aay (CxR.of (hp.1.mono (by decide))) (CxR.of (hq.2.mono (by decide))) (hp.1.mono (by decide)) (hq.2.mono (by decide)) rfl
 have s3 := aay (CxR.of (hq.1.mono (by decide))) (CxR.of (hp.2.mono (by decide))) (hq.1.mono (by decide)) (hp.2.mono (by decide)) rfl
 have s4 := aay (CxR.of (hp.2.mono (by decide))) (CxR.of (hq.2.mono (by decide))) (hp.2.mono (by decide)) (hq.2.mono (by decide)) rfl
 have h2 : Hc 18001 (aw p.1 q.2) := Hc.aw hp.1 hq.2 (by decide)
 have h3 : Hc 18001 (aw q.1 p.2) := Hc.aw hq.1 hp.2 (by decide)
 have s5 := apw (CxR.of (h2.mono (show 18001 ≤ 1048576 by decide))) (CxR.of (h3.mono (show 18001 ≤ 1048576 by decide))) rfl
 unfold rr at h
 clear h2 h3 hp hq
 cases t
 ·rw [if_neg (of_decide_eq_false ht)] at h
  clear ht s1
  subst h
  generalize aw p.1 q.2 = u at *
  generalize aw q.1 p.2 = v at *
  generalize aw p.2 q.2 = w at *
  obtain ⟨⟨_, _⟩, ⟨_, _⟩⟩ := p
  obtain ⟨⟨_, _⟩, ⟨_, _⟩⟩ := q
  obtain ⟨_, _⟩ := u
  obtain ⟨_, _⟩ := v
  obtain ⟨_, _⟩ := w
  refine an af Tryz.func92 ?_
  repeat' ((conv => whnf); first | with_reducible refine ah.data ?_ | refine aa.mk _ _ (s0) ?_ | refine aa.mk _ _ (s2) ?_ | refine aa.mk _ _ (s3) ?_ | refine aa.mk _ _ (s4) ?_ | refine aa.mk _ _ (s5) ?_ | refine rgE ?_ | refine Cd.mk rfl ?_ | refine Br.f ?_ | (refine TkE.fL ?_; (conv => whnf); fail_if_success (show ae _ _)) | refine Res.mk ?_ | ((with_reducible refine EqE.idS ?_); (refine EqE.fP ?_; (conv => whnf); fail_if_success (show ae _ _))) | refine Cd.ol ?_)
  rfl
 ·rw [if_pos (of_decide_eq_true ht)] at h
  clear ht s2 s3 s4 s5
  subst h
  obtain ⟨⟨_, _⟩, ⟨_, _⟩⟩ := p
  obtain ⟨⟨_, _⟩, ⟨_, _⟩⟩ := q
  refine an af Tryz.func92 ?_
  repeat' ((conv => whnf); first | with_reducible refine ah.data ?_ | refine aa.mk _ _ (s0) ?_ | refine aa.mk _ _ (s1) ?_ | refine rgE ?_ | refine Cd.mk rfl ?_ | refine Br.t ?_ | (refine TkE.fL ?_; (conv => whnf); fail_if_success (show ae _ _)) | refine Res.mk ?_ | ((with_reducible refine EqE.idS ?_); (refine EqE.fP ?_; (conv => whnf); fail_if_success (show ae _ _))) | refine Cd.ol ?_)
  rfl
theorem my {p : Rq} {t : Bool} (hp : Hr 9000 p) (ht : (!decide (p.2 = (0, 0))) = t) : Sim Tryz.prog G0 true 95 [rqD p] (.bool t) := by
 obtain ⟨u, hu⟩ : ∃ u, decide (p.2 = (0, 0)) = u := ⟨_, rfl⟩
 have s0 := aul (CxR.of (hp.2.mono (show 9000 ≤ 1048576 by decide))) hu
 have s1 := y0 hp.1.1
 have s2 := y0 hp.1.2
 have s3 := y0 hp.2.1
 have s4 := y0 hp.2.2
 rw [hu] at ht
 subst ht
 clear hu hp
 obtain ⟨⟨_, _⟩, ⟨_, _⟩⟩ := p
 cases u
 ·refine an af Tryz.func95 ?_
  repeat' ((conv => whnf); first | with_reducible refine ah.data ?_ | refine aa.mk _ _ (s0) ?_ | refine aa.mk _ _ (s1) ?_ | refine aa.mk _ _ (s2) ?_ | refine aa.mk _ _ (s3) ?_ | refine aa.mk _ _ (s4) ?_ | refine rgE ?_ | refine Cd.mk rfl ?_ | refine Br.t ?_ | (refine TkE.fL ?_; (conv => whnf); fail_if_success (show ae _ _)) | refine Res.mk ?_)
  rfl
 ·refine an af Tryz.func95 ?_
  repeat' ((conv => whnf); first | with_reducible refine ah.data ?_ | refine aa.mk _ _ (s0) ?_ | refine rgE ?_ | refine Cd.mk rfl ?_ | refine Br.f ?_ | (refine TkE.fL ?_; (conv => whnf); fail_if_success (show ae _ _)) | refine Res.mk ?_)
  rfl
def zeR : List D := [.bool false, .nil, .int .i64 0, .bool false, .nil, .int .i64 0, .bool false, .nil, .int .i64 0, .bool false, .nil, .int .i64 0]
theorem agd : Sim Tryz.prog G0 true 95 [.agg [.bool false, sl [], .int .i64 0, .bool false, sl [], .int .i64 0, .bool false, sl [], .int .i64 0, .bool false, sl [], .int .i64 0]] (.bool false) := by
 have z : Hc 0 ((0, 0) : Cq) := ⟨.zero _, .zero _⟩
 have h := my (p := ((0, 0), (0, 0))) (t := false) ⟨z.mono (by decide), z.mono (by decide)⟩ (by decide)
 have e : D.agg [.bool false, sl [], .int .i64 0, .bool false, sl [], .int .i64 0, .bool false, sl [], .int .i64 0, .bool false, sl [], .int .i64 0] = rqD ((0, 0), (0, 0)) := by rw [← bh]; rfl
 rw [e]; exact h
theorem j6 {b : Bool} {l : List UInt32} {e : Int} (h : fy b l e = true) : a7 (aj (dof (zv b l) e)) = b ∧ ofN (aj (dof (zv b l) e)).natAbs = l ∧ ar (dof (zv b l) e) = e ∧ -20000 ≤ e ∧ e ≤ 20000 := by
 unfold fy at h
 rw [Bool.and_eq_true, Bool.and_eq_true, Bool.and_eq_true, Bool.and_eq_true] at h
 obtain ⟨⟨⟨⟨h1, h2⟩, h3⟩, h4⟩, h5⟩ := h
 have h3 := of_decide_eq_true h3
 have h4 := of_decide_eq_true h4
 by_cases hl : l.length = 0
 ·rw [if_pos hl] at h5
  have : l = [] := List.length_eq_zero_iff.1 hl
  subst this
  have h5 := of_decide_eq_true h5
  subst h5
  have hb : b = false := by simpa using h2
  subst hb
  exact ⟨by decide, by rw [show aj (dof (zv false []) 0) = 0 by decide]; exact bh, by decide, by decide, by decide⟩
 ·rw [if_neg hl] at h5
  have o := (ax0 b l).2 (of_decide_eq_true h5)
  have m0 : zv b l ≠ 0 := by omega
  have t : tzn (zv b l).natAbs = 0 := aj2 (by omega)
  obtain ⟨p1, p2, p3⟩ := nk e m0
  rw [t] at p2 p3
  have na := n6 b l
  refine ⟨?_, ?_, by omega, h3, h4⟩
  ·rw [p1, abt, decide_eq_true (by omega), Bool.and_true]
  ·rw [p2, na, Nat.pow_zero, Nat.div_one, ajj h1]
end Go.Ev.Ar

namespace Go.Ev.Ar
open Go Go.Ev Go.Proofs
def inA (a : Int) (i : Nat) : Bool := decide (0 ≤ a ∧ a < i)
def ik (ss : List Int) (x : Nd) (i : Nat) : Int :=
 if x.k = 7 ∧ inA x.a i = true then ss.getD x.a.toNat 0 * max 1 (min x.n 64) + 1
 else if (3 ≤ x.k ∧ x.k ≤ 6) ∧ inA x.a i = true ∧ inA x.b i = true then ss.getD x.a.toNat 0 + ss.getD x.b.toNat 0 + 1
 else if 8 ≤ x.k ∧ inA x.a i = true then ss.getD x.a.toNat 0 + 1
 else 1
def szL (xs : List Nd) : Nat → List Int
 | 0 => []
 | i + 1 => szL xs i ++ [ik (szL xs i) (xs.getD i Nd.nil) i]
theorem yy (xs : List Nd) : ∀ i, (szL xs i).length = i
 | 0 => rfl
 | i + 1 => by rw [szL, List.length_append, yy xs i]; rfl
def adr (xs : List Nd) : Bool := (szL xs xs.length).any fun s => decide (s > 60)
abbrev ag : Cq := (1, 0)
def alu (p : Rq) : Rq := ((-p.1.1, -p.1.2), p.2)
def qw (p : Rq) : Nat → Rq
 | 0 => (ag, ag)
 | j + 1 => df (qw p j) p
def b9 (vs : List Rq) (x : Nd) (z : Cq) : Option Rq :=
 if x.k = 1 then some (z, ag)
 else if x.k = 2 then some (x.r.val, ag)
 else if x.k = 3 then some (rr (vs.getD x.a.toNat (ag, ag)) (vs.getD x.b.toNat (ag, ag)))
 else if x.k = 4 then some (rr (vs.getD x.a.toNat (ag, ag)) (alu (vs.getD x.b.toNat (ag, ag))))
 else if x.k = 5 then some (df (vs.getD x.a.toNat (ag, ag)) (vs.getD x.b.toNat (ag, ag)))
 else if x.k = 6 then some (df (vs.getD x.a.toNat (ag, ag)) ((vs.getD x.b.toNat (ag, ag)).2, (vs.getD x.b.toNat (ag, ag)).1))
 else if x.k = 7 then some (qw (vs.getD x.a.toNat (ag, ag)) x.n.toNat)
 else none
def j8 (vs : List Rq) (x : Nd) (z : Cq) : Option Rq := (b9 vs x z).bind fun r => if r.2 = (0, 0) then none else some r
def exL (xs : List Nd) (z : Cq) : Nat → Option (List Rq)
 | 0 => some []
 | i + 1 => (exL xs z i).bind fun vs => (j8 vs (xs.getD i Nd.nil) z).map fun r => vs ++ [r]
theorem apr {xs : List Nd} {z : Cq} : ∀ {i : Nat} {vs : List Rq}, exL xs z i = some vs → vs.length = i
 | 0, vs, h => by cases h; rfl
 | i + 1, vs, h => by
  unfold exL at h
  rw [Option.bind_eq_some_iff] at h
  obtain ⟨us, hu, h⟩ := h
  rw [Option.map_eq_some_iff] at h
  obtain ⟨r, _, rfl⟩ := h
  rw [List.length_append, apr hu]; rfl
theorem aff {xs : List Nd} {z : Cq} : ∀ {i j : Nat}, exL xs z i = none → i ≤ j → exL xs z j = none
 | i, 0, h, hj => by rw [show i = 0 by omega] at h; cases h
 | i, j + 1, h, hj => by
  by_cases e : i = j + 1
  ·rw [← e]; exact h
  ·unfold exL; rw [aff h (by omega)]; rfl
def oc : Option Rq → List D
 | none => zeR
 | some p => [.bool (a7 (aj p.1.1)), sl (ofN (aj p.1.1).natAbs), .int .i64 (ar p.1.1), .bool (a7 (aj p.1.2)), sl (ofN (aj p.1.2).natAbs), .int .i64 (ar p.1.2), .bool (a7 (aj p.2.1)), sl (ofN (aj p.2.1).natAbs), .int .i64 (ar p.2.1), .bool (a7 (aj p.2.2)), sl (ofN (aj p.2.2).natAbs), .int .i64 (ar p.2.2)]
theorem aji (o : Option Rq) : (oc o).length = 12 := by cases o <;> rfl
def a9 (vs : List Rq) (n : Nat) : List (Option Rq) := vs.map some ++ List.replicate (n - vs.length) none
theorem xt {vs : List Rq} {n : Nat} (h : vs.length ≤ n) : (a9 vs n).length = n := by unfold a9; simp; omega
theorem ew {vs : List Rq} {n i : Nat} (h : i < vs.length) : (a9 vs n).getD i none = some (vs.getD i (ag, ag)) := by
 unfold a9
 rw [List.getD_eq_getElem?_getD, List.getElem?_append_left (by simpa using h), List.getElem?_map, List.getD_eq_getElem?_getD]
 simp [h]
theorem asl {vs : List Rq} {n i : Nat} (h : vs.length ≤ i) : (a9 vs n).getD i none = none := by
 unfold a9
 rw [List.getD_eq_getElem?_getD, List.getElem?_append_right (by simpa using h), List.getElem?_replicate]
 split <;> rfl
theorem agh {vs : List Rq} {n : Nat} (r : Rq) (h : vs.length < n) : (a9 vs n).set vs.length (some r) = a9 (vs ++ [r]) n := by
 unfold a9
 rw [List.set_append_right _ _ (by simp), List.length_map, Nat.sub_self, List.map_append, List.append_assoc, List.length_append, show n - vs.length = (n - (vs.length + 1)) + 1 by omega, List.replicate_succ]
 rfl
theorem a08 (n : Nat) : jv n (ow [.bool, .nil, .int .i64, .bool, .nil, .int .i64, .bool, .nil, .int .i64, .bool, .nil, .int .i64]) = fa oc (a9 [] n) := by
 unfold a9 fa jv
 rw [List.map_nil, List.nil_append, List.length_nil, Nat.sub_zero]
 induction n with
 | zero => rfl
 | succ n ih => rw [List.replicate_succ, List.replicate_succ, List.flatten_cons, List.flatMap_cons, List.map_append, ih]; rfl
end Go.Ev.Ar
