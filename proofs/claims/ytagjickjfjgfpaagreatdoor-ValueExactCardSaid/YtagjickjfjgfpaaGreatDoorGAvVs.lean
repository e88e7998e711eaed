/- Contracts of the given functions, on data. Conditions stand in each theorem. -/
import Derived.Test.YtagjickjfjgfpaaGreatDoorGEvR
import Derived.Test.YtagjickjfjgfpaaGreatDoorGAvVo
import Derived.Test.YtagjickjfjgfpaaGreatDoorGAvDyL
set_option linter.unusedSimpArgs false
set_option linter.unusedVariables false
namespace Go.Ev.Ar
open Go Go.Ev Go.Proofs
def Gd (z : Rq) : Prop := Nr z ∧ ox z
abbrev awy (vs : List Rq) (n : Nat) : List A := fa oc (a9 vs n)
abbrev gv (vs : List Rq) (a : Int) : Rq := vs.getD a.toNat (ag, ag)
theorem xj {vs : List Rq} {n : Nat} {a : Int} {r : Rq} (h0 : 0 ≤ a) (h1 : a < vs.length) (hv : vs.length ≤ n) (hr : gv vs a = r) : ((fa oc (a9 vs n)).drop (0 + a.toNat * 12)).take 12 = (oc (some r)).map A.d := by
 subst hr
 exact ng h0 (by omega) hv (ew (by omega))
set_option maxHeartbeats 4000000 in
theorem aj6 {vs : List Rq} {n : Nat} {x : Nd} {r : Rq} (hn : vs.length ≤ n) (hn2 : n < 2^62) (ha : 0 ≤ x.a ∧ x.a < vs.length) (hb : 0 ≤ x.b ∧ x.b < vs.length) (ga : Gd (gv vs x.a)) (gb : Gd (gv vs x.b))
  (h : (if x.a = x.b then rsq (gv vs x.a) else ij (gv vs x.a) (gv vs x.b)) = r) :
  jl Tryz.prog G0 160 [.own 1000000 0 n 12, .d (.agg x.cells)] [(1000000, false, awy vs n)] (.d (rqD r)) [(1000000, false, awy vs n)] := by
 obtain ⟨k, a, b, n', ⟨b1, l1, e1, c1, k1, f1⟩⟩ := x
 dsimp only at ha hb ga gb h
 obtain ⟨p, hp⟩ : ∃ p, gv vs a = p := ⟨_, rfl⟩
 obtain ⟨q, hq⟩ : ∃ q, gv vs b = q := ⟨_, rfl⟩
 have L1 := xj ha.1 ha.2 hn hp
 have L2 := xj hb.1 hb.2 hn hq
 rw [hp] at ga h
 rw [hq] at gb h
 have hl := ajh hn
 have hp2 := ga.1.hr
 have hq2 := gb.1.hr
 by_cases e : a = b
 ·rw [if_pos e] at h
  have s1 := ajx (r := r) (RqR.of (hp2.mono (by decide))) (hp2.mono (by decide)) (by rw [ji ga.2]; exact h)
  obtain ⟨⟨_, _⟩, ⟨_, _⟩⟩ := p
  obtain ⟨⟨_, _⟩, ⟨_, _⟩⟩ := r
  refine ju af Tryz.func160 ?_
  repeat' ((conv => whnf); first | with_reducible refine ah.data ?_ | ((with_reducible refine Br.jm ?hpp ?_); case hpp => first | omega | (dsimp only; omega)) | refine aa.mk _ _ (s1) ?_ | ((with_reducible show TkE (fa oc (a9 vs _)) _ _ _); refine TkE.mk _ L1 rfl ?_) | refine rgE ?_ | refine Cd.mk rfl ?_ | refine ai.mk _ rfl ?_ | ((with_reducible refine EqE.idS ?_); (refine EqE.fP ?_; (conv => whnf); fail_if_success (show ae _ _))) | refine Cd.ol ?_ | refine Cd.os ?_)
  refine ft.data _ ?_ rfl
  repeat' ((conv => whnf); first | refine Cd.mk rfl ?_ | (refine TkE.fL ?_; (conv => whnf); fail_if_success (show ae _ _)))
  exact ⟨rfl, rfl⟩
 ·rw [if_neg e] at h
  have s1 := agi (RqR.of (hp2.mono (by decide))) (RqR.of (hq2.mono (by decide))) (hp2.mono (by decide)) (hq2.mono (by decide)) h
  obtain ⟨⟨_, _⟩, ⟨_, _⟩⟩ := p
  obtain ⟨⟨_, _⟩, ⟨_, _⟩⟩ := q
  obtain ⟨⟨_, _⟩, ⟨_, _⟩⟩ := r
  refine ju af Tryz.func160 ?_
  repeat' ((conv => whnf); first | ((with_reducible refine Br.dq ?hpp ?_); case hpp => first | omega | (dsimp only; omega)) | refine aa.mk _ _ (s1) ?_ | ((with_reducible show TkE (fa oc (a9 vs _)) (0 + Int.toNat a * _) _ _); refine TkE.mk _ L1 rfl ?_) | ((with_reducible show TkE (fa oc (a9 vs _)) (0 + Int.toNat b * _) _ _); refine TkE.mk _ L2 rfl ?_) | refine rgE ?_ | refine Cd.mk rfl ?_ | refine ai.mk _ rfl ?_ | ((with_reducible refine EqE.idS ?_); (refine EqE.fP ?_; (conv => whnf); fail_if_success (show ae _ _))) | refine Cd.ol ?_ | refine Cd.os ?_)
  refine ft.data _ ?_ rfl
  repeat' ((conv => whnf); first | refine Cd.mk rfl ?_ | (refine TkE.fL ?_; (conv => whnf); fail_if_success (show ae _ _)))
  exact ⟨rfl, rfl⟩
def a12 (o : Option Rq) : D := match o with
 | some r => .tup [rqD r, .int .i64 0]
 | none => .tup [rqD zR, .int .i64 13]
theorem azo (o : Option Rq) : (a12 o).sc = false := by cases o <;> rfl
theorem aht {X : Rq} {p : Int} {i : Nat} (h : vo X p i = none) : ∀ {j : Nat}, i ≤ j → vo X p j = none
 | 0, hj => by rw [show i = 0 by omega] at h; cases h
 | j + 1, hj => by
  by_cases e : i = j + 1
  ·rw [← e]; exact h
  ·unfold vo; rw [aht h (show i ≤ j by omega)]; rfl
theorem av3 : Nq 1 := ⟨Zt.small (by decide) (by decide), by decide, by decide⟩
theorem av1 : Gd (ptR ag) := ⟨⟨⟨av3, av3⟩, .zero, .zero⟩, by unfold ox Ord ptR; dsimp only; exact ⟨by grind, by grind⟩⟩
set_option maxHeartbeats 4000000 in
theorem as6 {X : Rq} {n p : Int} (gX : Gd X) (hn : 0 ≤ n ∧ n ≤ 64) (hp : 0 ≤ p ∧ p ≤ 200) : Sim Tryz.prog G0 false 162 [rqD X, .int .i64 n, .int .i64 p] (a12 (vo X p n.toNat)) := by
 have s1 : Sim Tryz.prog G0 false 90 [.int .i64 1, .int .i64 0] (cxD ag) := auj 1 0 (by decide) (by decide) (by decide) (by decide)
 have o1 : Hc 164 ag := pj _ (by decide)
 have s2 := aq0 (CxR.of (o1.mono (b := 1048576) (by decide))) (o1.mono (by decide))
 have hX := gX.1.hr
 have step : ∀ r, Gd r → Sim Tryz.prog G0 false 129 [rqD r, rqD X] (rqD (ij r X)) ∧ Sim Tryz.prog G0 false 134 [rqD (ij r X), .int .i64 (p + 20)] (rqD (ba (ij r X) (p + 20))) ∧ Sim Tryz.prog G0 true 104 [rqD (ba (ij r X) (p + 20))] (.bool (okR (ba (ij r X) (p + 20)))) := fun r gr => by
  have hr := gr.1.hr
  have hM : Hr 40601 (ij r X) := hr.ij hX (by decide)
  have oM := qu r X
  have hR := hM.ba (p := p + 20) (K := 220) (by omega)
  refine ⟨agi (RqR.of (hr.mono (by decide))) (RqR.of (hX.mono (by decide))) (hr.mono (by decide)) (hX.mono (by decide)) rfl, ?_, aj5 (hR.mono (by decide)) rfl⟩
  exact z7 (p + 20) (RqR.of (hM.mono (by decide))) (hM.mono (by decide)) (by rw [ji oM])
 have nxt : ∀ r, okR (ba (ij r X) (p + 20)) = true → Gd (ba (ij r X) (p + 20)) := fun r h => ⟨af0 (by omega) h, vu _ (qu _ _)⟩
 clear gX hX
 obtain ⟨⟨_, _⟩, ⟨_, _⟩⟩ := X
 rename_i X1 X2 X3 X4
 refine an (hs := (azo _)) af Tryz.func162 ?_
 repeat' ((conv => whnf); first | with_reducible refine ah.data ?_ | refine aa.mk _ _ (s1) ?_ | refine aa.mk _ _ (s2) ?_ | refine rgE ?_ | refine Cd.mk rfl ?_ | ((with_reducible refine EqE.idS ?_); (refine EqE.fP ?_; (conv => whnf); fail_if_success (show ae _ _))) | refine Cd.ol ?_)
 refine ⟨[], [2, 3, 6, 8, 11, 12], [3, 6, 8], fun m ys h => ∃ (i : Nat) (r : Rq), m = n.toNat - i ∧ i ≤ n.toNat ∧ vo ((X1, X2), (X3, X4)) p i = some r ∧ Gd r ∧ ys = [.d (.int .i64 p), .ptr 3 0, .ptr 6 0, .ptr 8 0, .d (.int .i64 n), .d (.int .i64 i)] ∧
  h = [(8, false, (oc (some r)).map A.d), (6, false, zeA ++ zeA ++ zeA ++ zeA), (3, false, (oc (some ((X1, X2), (X3, X4)))).map A.d)],
  ⟨_, _, _, ⟨.inl rfl, rfl, rfl, by first | rfl | (repeat first | exact all_nil _ | refine bn _ _ _ _ _ ?_)⟩, 0, ptR ag, rfl, by omega, rfl, av1, rfl, rfl⟩, ?_⟩
 rintro m ys h ⟨i, r, rfl, hi, hpw, gr, rfl, rfl⟩
 by_cases hlt : i < n.toNat
 ·obtain ⟨m1, m2, m3⟩ := step r gr
  have hnx := nxt r
  have e1 : vo ((X1, X2), (X3, X4)) p (i + 1) = if okR (ba (ij r ((X1, X2), (X3, X4))) (p + 20)) then some (ba (ij r ((X1, X2), (X3, X4))) (p + 20)) else none := by rw [vo, hpw]; rfl
  generalize ij r ((X1, X2), (X3, X4)) = M at *
  generalize ba M (p + 20) = R at *
  obtain ⟨⟨_, _⟩, ⟨_, _⟩⟩ := r
  obtain ⟨⟨_, _⟩, ⟨_, _⟩⟩ := M
  obtain ⟨t, ht⟩ : ∃ t, okR R = t := ⟨_, rfl⟩
  rw [ht] at m3 hnx e1
  cases t
  ·rw [if_neg (by decide)] at e1
   obtain ⟨⟨_, _⟩, ⟨_, _⟩⟩ := R
   have e2 := aht e1 (show i + 1 ≤ n.toNat by omega)
   rw [e2]
   repeat' ((conv => whnf); first | with_reducible refine ah.data ?_ | ((with_reducible refine Br.jm ?hpp ?_); case hpp => first | omega | (dsimp only; omega)) | refine aa.mk _ _ (m1) ?_ | refine aa.mk _ _ (m2) ?_ | refine aa.mk _ _ (m3) ?_ | refine rgE ?_ | refine Cd.mk rfl ?_ | refine Br.t ?_ | (refine TkE.fL ?_; (conv => whnf); fail_if_success (show ae _ _)) | refine Res.mk ?_ | ((with_reducible refine EqE.idW ?_); refine EqE.mk (p + 20) (ak (by omega) (by omega)) ?_) | ((with_reducible refine EqE.idS ?_); (refine EqE.fP ?_; (conv => whnf); fail_if_success (show ae _ _))) | refine Cd.ol ?_)
   rw [show a12 none = D.tup [rqD zR, .int .i64 13] from rfl, ← n4]; rfl
  ·rw [if_pos rfl] at e1
   have gR := hnx rfl
   obtain ⟨⟨_, _⟩, ⟨_, _⟩⟩ := R
   repeat' ((conv => whnf); first | with_reducible refine ah.data ?_ | ((with_reducible refine Br.jm ?hpp ?_); case hpp => first | omega | (dsimp only; omega)) | refine aa.mk _ _ (m1) ?_ | refine aa.mk _ _ (m2) ?_ | refine aa.mk _ _ (m3) ?_ | refine rgE ?_ | refine Cd.mk rfl ?_ | refine Br.f ?_ | (refine TkE.fL ?_; (conv => whnf); fail_if_success (show ae _ _)) | refine ao.cu _ _ ?_ | ((with_reducible refine EqE.idW ?_); first | refine EqE.mk (p + 20) (ak (by omega) (by omega)) ?_ | with_reducible refine EqE.mk _ (a5 _ (by omega)) ?_) | ((with_reducible refine EqE.idS ?_); (refine EqE.fP ?_; (conv => whnf); fail_if_success (show ae _ _))) | refine Cd.ol ?_)
   exact ⟨_, ⟨i + 1, _, rfl, by omega, e1, gR, rfl, rfl⟩, by omega⟩
 ·have e : n.toNat = i := by omega
  rw [e, hpw]
  obtain ⟨⟨_, _⟩, ⟨_, _⟩⟩ := r
  repeat' ((conv => whnf); first | ((with_reducible refine Br.dq ?hpp ?_); case hpp => first | omega | (dsimp only; omega)) | refine rgE ?_ | refine Cd.mk rfl ?_ | (refine TkE.fL ?_; (conv => whnf); fail_if_success (show ae _ _)) | refine Res.mk ?_ | ((with_reducible refine EqE.idS ?_); (refine EqE.fP ?_; (conv => whnf); fail_if_success (show ae _ _))) | refine Cd.ol ?_)
  rfl
set_option maxRecDepth 10000 in
set_option maxHeartbeats 16000000 in
theorem ao8 {vs : List Rq} {n : Nat} {x : Nd} {X R : Rq} {p c : Int} (hn : vs.length ≤ n) (hn2 : n < 2^62) (hv : ∀ j, j < vs.length → Gd (vs.getD j (ag, ag))) (hx : k9 x vs.length = true) (k7 : x.k ≤ 7) (hc : x.k = 2 → Hc 20300 x.r.val) (hp : 0 ≤ p ∧ p ≤ 200) (h : ca vs x X p = (R, c)) :
  jl Tryz.prog G0 106 [.d (.agg x.cells), .own 1000000 0 n 12, .d (rqD X), .d (.int .i64 p)] [(1000000, false, awy vs n)] (.d (.tup [rqD R, .int .i64 c])) [(1000000, false, awy vs n)] := by
 have fx := j7 hx
 have hl := ajh hn
 obtain ⟨k, a, b, n', ⟨b1, l1, e1, c1, k1, f1⟩⟩ := x
 obtain ⟨kk1, kk10, fa', fb', ga, gb, f7, f2⟩ := fx
 dsimp only at kk1 kk10 fa' fb' ga gb f7 f2 hc k7
 have p20 : IntKind.i64.wrap (p + 20) = p + 20 := ak (by omega) (by omega)
 have gq : ∀ a : Int, 0 ≤ a → a < vs.length → Gd (gv vs a) := fun a h1 h2 => hv _ (by omega)
 have rd : ∀ M : Rq, Hr 97700 M → ox M → Sim Tryz.prog G0 false 134 [rqD M, .int .i64 (p + 20)] (rqD (ba M (p + 20))) := fun M hM oM => z7 (p + 20) (RqR.of (hM.mono (by decide))) (hM.mono (by decide)) (by rw [ji oM])
 have kc : k = 1 ∨ k = 2 ∨ k = 3 ∨ k = 4 ∨ k = 5 ∨ k = 6 ∨ k = 7 := by omega
 clear hx hv
 rcases kc with rfl | rfl | rfl | rfl | rfl | rfl | rfl
 ·have e0 : ca vs ⟨1, a, b, n', ⟨b1, l1, e1, c1, k1, f1⟩⟩ X p = (X, 0) := by unfold ca; rw [if_pos rfl]
  rw [e0] at h
  clear e0
  cases h
  obtain ⟨⟨_, _⟩, ⟨_, _⟩⟩ := X
  refine ju af Tryz.func106 ?_
  repeat' ((conv => whnf); first | refine rgE ?_ | refine Cd.mk rfl ?_ | refine Br.t ?_ | refine ai.mk _ rfl ?_ | (refine TkE.fL ?_; (conv => whnf); fail_if_success (show ae _ _)) | ((with_reducible refine EqE.idS ?_); (refine EqE.fP ?_; (conv => whnf); fail_if_success (show ae _ _))) | refine Cd.ol ?_)
  refine ft.data _ ?_ rfl
  repeat' ((conv => whnf); first | refine Cd.mk rfl ?_ | (refine TkE.fL ?_; (conv => whnf); fail_if_success (show ae _ _)))
  exact ⟨rfl, rfl⟩
 ·have e0 : ca vs ⟨2, a, b, n', ⟨b1, l1, e1, c1, k1, f1⟩⟩ X p = (ptR (RC.val ⟨b1, l1, e1, c1, k1, f1⟩), 0) := by unfold ca; rw [if_neg (show ¬ (2 : Int) = 1 by decide), if_pos rfl]
  rw [e0] at h
  clear e0
  cases h
  obtain ⟨d1, d2⟩ := f2 rfl
  obtain ⟨q1, q2, q3, _⟩ := j6 d1
  obtain ⟨q4, q5, q6, _⟩ := j6 d2
  have hcc : Hc 20300 (dof (zv b1 l1) e1, dof (zv c1 k1) f1) := hc rfl
  show jl _ _ _ _ _ (.d (.tup [rqD (ptR (dof (zv b1 l1) e1, dof (zv c1 k1) f1)), _])) _
  clear f2 d1 d2 hc
  generalize dof (zv b1 l1) e1 = u at *
  generalize dof (zv c1 k1) f1 = v at *
  subst q1 q2 q3 q4 q5 q6
  have s1 := aq0 (CxR.of (hcc.mono (show 20300 ≤ 1048576 by decide))) (hcc.mono (by decide))
  refine ju af Tryz.func106 ?_
  repeat' ((conv => whnf); first | with_reducible refine ah.data ?_ | ((with_reducible refine Br.dq ?hpp ?_); case hpp => first | omega | (dsimp only; omega)) | refine aa.mk _ _ (s1) ?_ | refine rgE ?_ | refine Cd.mk rfl ?_ | refine Br.t ?_ | refine ai.mk _ rfl ?_ | (refine TkE.fL ?_; (conv => whnf); fail_if_success (show ae _ _)) | ((with_reducible refine EqE.idS ?_); (refine EqE.fP ?_; (conv => whnf); fail_if_success (show ae _ _))) | refine Cd.ol ?_)
  refine ft.data _ ?_ rfl
  repeat' ((conv => whnf); first | refine Cd.mk rfl ?_ | (refine TkE.fL ?_; (conv => whnf); fail_if_success (show ae _ _)))
  exact ⟨rfl, rfl⟩
 ·obtain ⟨a0, a1⟩ := fa' (by decide)
  obtain ⟨b0, b1'⟩ := fb' (by decide)
  have hga := gq a a0 a1
  have hgb := gq b b0 b1'
  obtain ⟨u, hu⟩ : ∃ u, gv vs a = u := ⟨_, rfl⟩
  obtain ⟨v, hv⟩ : ∃ v, gv vs b = v := ⟨_, rfl⟩
  have L1 := xj a0 a1 hn hu
  have L2 := xj b0 b1' hn hv
  have e0 : ca vs ⟨3, a, b, n', ⟨b1, l1, e1, c1, k1, f1⟩⟩ X p = (ba (abh (gv vs a) (gv vs b)) (p + 20), 0) := by unfold ca; rw [if_neg (show ¬ (3 : Int) = 1 by decide), if_neg (show ¬ (3 : Int) = 2 by decide), if_pos rfl]
  rw [e0] at h
  clear e0
  rw [hu] at hga h
  rw [hv] at hgb h
  have hhu := hga.1.hr
  have hhv := hgb.1.hr
  have hM : Hr 20301 (abh u v) := hhu.abh hhv (by decide)
  have oM := alx hga.2 hgb.2
  have s1 := aw1 (r := abh u v) (RqR.of (hhu.mono (by decide))) (RqR.of (hhv.mono (by decide))) (hhu.mono (by decide)) (hhv.mono (by decide)) (by rw [ji hga.2, ji hgb.2])
  have s2 := rd _ (hM.mono (by decide)) oM
  generalize abh u v = M at *
  generalize ba M (p + 20) = R at *
  cases h
  obtain ⟨⟨_, _⟩, ⟨_, _⟩⟩ := u
  obtain ⟨⟨_, _⟩, ⟨_, _⟩⟩ := v
  obtain ⟨⟨_, _⟩, ⟨_, _⟩⟩ := M
  obtain ⟨⟨_, _⟩, ⟨_, _⟩⟩ := R
  refine ju af Tryz.func106 ?_
  repeat' ((conv => whnf); first | with_reducible refine ah.data ?_ | ((with_reducible refine Br.dq ?hpp ?_); case hpp => first | omega | (dsimp only; omega)) | refine aa.mk _ _ (s1) ?_ | refine aa.mk _ _ (s2) ?_ | ((with_reducible show TkE (fa oc (a9 vs _)) (0 + Int.toNat a * _) _ _); refine TkE.mk _ L1 rfl ?_) | ((with_reducible show TkE (fa oc (a9 vs _)) (0 + Int.toNat b * _) _ _); refine TkE.mk _ L2 rfl ?_) | refine rgE ?_ | refine Cd.mk rfl ?_ | refine Br.t ?_ | refine Br.f ?_ | refine ai.mk _ rfl ?_ | (refine TkE.fL ?_; (conv => whnf); fail_if_success (show ae _ _)) | ((with_reducible refine EqE.idW ?_); refine EqE.mk (p + 20) p20 ?_) | ((with_reducible refine EqE.idS ?_); (refine EqE.fP ?_; (conv => whnf); fail_if_success (show ae _ _))) | refine Cd.ol ?_ | refine Cd.os ?_)
  refine ft.data _ ?_ rfl
  repeat' ((conv => whnf); first | refine Cd.mk rfl ?_ | (refine TkE.fL ?_; (conv => whnf); fail_if_success (show ae _ _)))
  exact ⟨rfl, rfl⟩
 ·obtain ⟨a0, a1⟩ := fa' (by decide)
  obtain ⟨b0, b1'⟩ := fb' (by decide)
  have hga := gq a a0 a1
  have hgb := gq b b0 b1'
  obtain ⟨u, hu⟩ : ∃ u, gv vs a = u := ⟨_, rfl⟩
  obtain ⟨v, hv⟩ : ∃ v, gv vs b = v := ⟨_, rfl⟩
  have L1 := xj a0 a1 hn hu
  have L2 := xj b0 b1' hn hv
  have e0 : ca vs ⟨4, a, b, n', ⟨b1, l1, e1, c1, k1, f1⟩⟩ X p = (ba (adw (gv vs a) (gv vs b)) (p + 20), 0) := by unfold ca; rw [if_neg (show ¬ (4 : Int) = 1 by decide), if_neg (show ¬ (4 : Int) = 2 by decide), if_neg (show ¬ (4 : Int) = 3 by decide), if_pos rfl]
  rw [e0] at h
  clear e0
  rw [hu] at hga h
  rw [hv] at hgb h
  have hhu := hga.1.hr
  have hhv := hgb.1.hr
  have hM : Hr 20301 (adw u v) := hhu.adw hhv (by decide)
  have oM := ame hga.2 hgb.2
  have s1 := aw2 (r := adw u v) (RqR.of (hhu.mono (by decide))) (RqR.of (hhv.mono (by decide))) (hhu.mono (by decide)) (hhv.mono (by decide)) (by rw [ji hga.2, ji hgb.2])
  have s2 := rd _ (hM.mono (by decide)) oM
  generalize adw u v = M at *
  generalize ba M (p + 20) = R at *
  cases h
  obtain ⟨⟨_, _⟩, ⟨_, _⟩⟩ := u
  obtain ⟨⟨_, _⟩, ⟨_, _⟩⟩ := v
  obtain ⟨⟨_, _⟩, ⟨_, _⟩⟩ := M
  obtain ⟨⟨_, _⟩, ⟨_, _⟩⟩ := R
  refine ju af Tryz.func106 ?_
  repeat' ((conv => whnf); first | with_reducible refine ah.data ?_ | ((with_reducible refine Br.dq ?hpp ?_); case hpp => first | omega | (dsimp only; omega)) | refine aa.mk _ _ (s1) ?_ | refine aa.mk _ _ (s2) ?_ | ((with_reducible show TkE (fa oc (a9 vs _)) (0 + Int.toNat a * _) _ _); refine TkE.mk _ L1 rfl ?_) | ((with_reducible show TkE (fa oc (a9 vs _)) (0 + Int.toNat b * _) _ _); refine TkE.mk _ L2 rfl ?_) | refine rgE ?_ | refine Cd.mk rfl ?_ | refine Br.t ?_ | refine Br.f ?_ | refine ai.mk _ rfl ?_ | (refine TkE.fL ?_; (conv => whnf); fail_if_success (show ae _ _)) | ((with_reducible refine EqE.idW ?_); refine EqE.mk (p + 20) p20 ?_) | ((with_reducible refine EqE.idS ?_); (refine EqE.fP ?_; (conv => whnf); fail_if_success (show ae _ _))) | refine Cd.ol ?_ | refine Cd.os ?_)
  refine ft.data _ ?_ rfl
  repeat' ((conv => whnf); first | refine Cd.mk rfl ?_ | (refine TkE.fL ?_; (conv => whnf); fail_if_success (show ae _ _)))
  exact ⟨rfl, rfl⟩
 ·obtain ⟨a0, a1⟩ := fa' (by decide)
  obtain ⟨b0, b1'⟩ := fb' (by decide)
  have hga := gq a a0 a1
  have hgb := gq b b0 b1'
  obtain ⟨u, hu⟩ : ∃ u, gv vs a = u := ⟨_, rfl⟩
  obtain ⟨v, hv⟩ : ∃ v, gv vs b = v := ⟨_, rfl⟩
  have L1 := xj a0 a1 hn hu
  have L2 := xj b0 b1' hn hv
  have e0 : ca vs ⟨5, a, b, n', ⟨b1, l1, e1, c1, k1, f1⟩⟩ X p = (ba (if a = b then rsq (gv vs a) else ij (gv vs a) (gv vs b)) (p + 20), 0) := by unfold ca; rw [if_neg (show ¬ (5 : Int) = 1 by decide), if_neg (show ¬ (5 : Int) = 2 by decide), if_neg (show ¬ (5 : Int) = 3 by decide), if_neg (show ¬ (5 : Int) = 4 by decide), if_pos rfl]
  rw [e0] at h
  clear e0
  have s1 := aj6 (x := ⟨5, a, b, n', ⟨b1, l1, e1, c1, k1, f1⟩⟩) hn hn2 ⟨a0, a1⟩ ⟨b0, b1'⟩ hga hgb rfl
  dsimp only at s1
  have hM : Hr 40700 (if a = b then rsq (gv vs a) else ij (gv vs a) (gv vs b)) ∧ ox (if a = b then rsq (gv vs a) else ij (gv vs a) (gv vs b)) := by
   split
   ·exact ⟨hga.1.hr.rsq (by decide), aqz hga.2⟩
   ·exact ⟨hga.1.hr.ij hgb.1.hr (by decide), qu _ _⟩
  generalize (if a = b then rsq (gv vs a) else ij (gv vs a) (gv vs b)) = M at *
  have s2 := rd M (hM.1.mono (by decide)) hM.2
  generalize ba M (p + 20) = R at *
  cases h
  obtain ⟨⟨m1, m2⟩, ⟨m3, m4⟩⟩ := M
  obtain ⟨⟨_, _⟩, ⟨_, _⟩⟩ := R
  refine ju af Tryz.func106 ?_
  repeat' ((conv => whnf); first | refine ah.own (jr.au (s1) [(1000000, 1000000)] [] (.d (rqD ((m1, m2), (m3, m4)))) [(1000000, false, awy vs n)] [] ?_) | with_reducible refine ah.data ?_ | ((with_reducible refine Br.dq ?hpp ?_); case hpp => first | omega | (dsimp only; omega)) | refine aa.mk _ _ (s2) ?_ | refine rgE ?_ | refine Cd.mk rfl ?_ | refine Br.t ?_ | refine Br.f ?_ | refine ai.mk _ rfl ?_ | (refine TkE.fL ?_; (conv => whnf); fail_if_success (show ae _ _)) | ((with_reducible refine EqE.idW ?_); refine EqE.mk (p + 20) p20 ?_) | ((with_reducible refine EqE.idS ?_); (refine EqE.fP ?_; (conv => whnf); fail_if_success (show ae _ _))) | refine Cd.ol ?_)
  refine ft.data _ ?_ rfl
  repeat' ((conv => whnf); first | refine Cd.mk rfl ?_ | (refine TkE.fL ?_; (conv => whnf); fail_if_success (show ae _ _)))
  exact ⟨rfl, rfl⟩
 ·obtain ⟨a0, a1⟩ := fa' (by decide)
  obtain ⟨b0, b1'⟩ := fb' (by decide)
  have hga := gq a a0 a1
  have hgb := gq b b0 b1'
  obtain ⟨u, hu⟩ : ∃ u, gv vs a = u := ⟨_, rfl⟩
  obtain ⟨v, hv⟩ : ∃ v, gv vs b = v := ⟨_, rfl⟩
  have L1 := xj a0 a1 hn hu
  have L2 := xj b0 b1' hn hv
  have e0 : ca vs ⟨6, a, b, n', ⟨b1, l1, e1, c1, k1, f1⟩⟩ X p = roA (fq (gv vs a) (gv vs b) (p + 20)) p := by unfold ca; rw [if_neg (show ¬ (6 : Int) = 1 by decide), if_neg (show ¬ (6 : Int) = 2 by decide), if_neg (show ¬ (6 : Int) = 3 by decide), if_neg (show ¬ (6 : Int) = 4 by decide), if_neg (show ¬ (6 : Int) = 5 by decide), if_pos rfl]
  rw [e0] at h
  clear e0
  rw [hu] at hga h
  rw [hv] at hgb h
  have hhu := hga.1.hr
  have hhv := hgb.1.hr
  obtain ⟨⟨M, d⟩, hM0⟩ : ∃ M, fq u v (p + 20) = M := ⟨_, rfl⟩
  have s1 := asp (r := M) (c := d) (p + 20) (RqR.of (hhu.mono (by decide))) (RqR.of (hhv.mono (by decide))) (hhu.mono (by decide)) (hhv.mono (by decide)) (by rw [ji hga.2, ji hgb.2]; exact hM0)
  have hdc := acp (z := u) (w := v) (p + 20)
  have hM := hhu.fq hhv (p := p + 20) (K := 220) (by omega)
  have oM := alz u v (p + 20)
  rw [hM0] at h hdc hM oM
  dsimp only at hdc hM oM
  rcases hdc with rfl | rfl
  ·rw [show roA (M, 11) p = (zR, 11) from rfl] at h
   cases h
   obtain ⟨⟨_, _⟩, ⟨_, _⟩⟩ := u
   obtain ⟨⟨_, _⟩, ⟨_, _⟩⟩ := v
   obtain ⟨⟨_, _⟩, ⟨_, _⟩⟩ := M
   refine ju af Tryz.func106 ?_
   repeat' ((conv => whnf); first | ((with_reducible refine Br.dq ?hpp ?_); case hpp => first | omega | (dsimp only; omega)) | refine aa.mk _ _ (s1) ?_ | ((with_reducible show TkE (fa oc (a9 vs _)) (0 + Int.toNat a * _) _ _); refine TkE.mk _ L1 rfl ?_) | ((with_reducible show TkE (fa oc (a9 vs _)) (0 + Int.toNat b * _) _ _); refine TkE.mk _ L2 rfl ?_) | refine rgE ?_ | refine Cd.mk rfl ?_ | refine Br.t ?_ | refine ai.mk _ rfl ?_ | ((with_reducible refine EqE.idW ?_); refine EqE.mk (p + 20) p20 ?_) | ((with_reducible refine EqE.idS ?_); (refine EqE.fP ?_; (conv => whnf); fail_if_success (show ae _ _))) | refine Cd.ol ?_ | refine Cd.os ?_)
   refine ft.data _ ?_ rfl
   repeat' ((conv => whnf); first | refine Cd.mk rfl ?_ | (refine TkE.fL ?_; (conv => whnf); fail_if_success (show ae _ _)))
   refine ⟨?_, rfl⟩
   rw [← n4]; rfl
  ·rw [show roA (M, 0) p = (ba M (p + 20), 0) from rfl] at h
   have s2 := rd M (hM.mono (by decide)) oM
   generalize ba M (p + 20) = R at *
   cases h
   obtain ⟨⟨_, _⟩, ⟨_, _⟩⟩ := u
   obtain ⟨⟨_, _⟩, ⟨_, _⟩⟩ := v
   obtain ⟨⟨_, _⟩, ⟨_, _⟩⟩ := M
   obtain ⟨⟨_, _⟩, ⟨_, _⟩⟩ := R
   refine ju af Tryz.func106 ?_
   repeat' ((conv => whnf); first | with_reducible refine ah.data ?_ | ((with_reducible refine Br.dq ?hpp ?_); case hpp => first | omega | (dsimp only; omega)) | refine aa.mk _ _ (s1) ?_ | refine aa.mk _ _ (s2) ?_ | ((with_reducible show TkE (fa oc (a9 vs _)) (0 + Int.toNat a * _) _ _); refine TkE.mk _ L1 rfl ?_) | ((with_reducible show TkE (fa oc (a9 vs _)) (0 + Int.toNat b * _) _ _); refine TkE.mk _ L2 rfl ?_) | refine rgE ?_ | refine Cd.mk rfl ?_ | refine Br.t ?_ | refine Br.f ?_ | refine ai.mk _ rfl ?_ | (refine TkE.fL ?_; (conv => whnf); fail_if_success (show ae _ _)) | ((with_reducible refine EqE.idW ?_); refine EqE.mk (p + 20) p20 ?_) | ((with_reducible refine EqE.idS ?_); (refine EqE.fP ?_; (conv => whnf); fail_if_success (show ae _ _))) | refine Cd.ol ?_ | refine Cd.os ?_)
   refine ft.data _ ?_ rfl
   repeat' ((conv => whnf); first | refine Cd.mk rfl ?_ | (refine TkE.fL ?_; (conv => whnf); fail_if_success (show ae _ _)))
   exact ⟨rfl, rfl⟩
 ·obtain ⟨a0, a1⟩ := fa' (by decide)
  have hga := gq a a0 a1
  obtain ⟨u, hu⟩ : ∃ u, gv vs a = u := ⟨_, rfl⟩
  have L1 := xj a0 a1 hn hu
  have e0 : ca vs ⟨7, a, b, n', ⟨b1, l1, e1, c1, k1, f1⟩⟩ X p = match vo (gv vs a) p n'.toNat with | some r => (r, 0) | none => (zR, 13) := by unfold ca; rw [if_neg (show ¬ (7 : Int) = 1 by decide), if_neg (show ¬ (7 : Int) = 2 by decide), if_neg (show ¬ (7 : Int) = 3 by decide), if_neg (show ¬ (7 : Int) = 4 by decide), if_neg (show ¬ (7 : Int) = 5 by decide), if_neg (show ¬ (7 : Int) = 6 by decide), if_pos rfl]; rfl
  rw [e0] at h
  clear e0
  rw [hu] at hga h
  have s1 := as6 (n := n') hga (f7 rfl) hp
  cases ho : vo u p n'.toNat with
  | none =>
   rw [ho] at h s1
   cases h
   obtain ⟨⟨_, _⟩, ⟨_, _⟩⟩ := u
   refine ju af Tryz.func106 ?_
   repeat' ((conv => whnf); first | ((with_reducible refine Br.dq ?hpp ?_); case hpp => first | omega | (dsimp only; omega)) | refine aa.mk _ _ (s1) ?_ | ((with_reducible show TkE (fa oc (a9 vs _)) (0 + Int.toNat a * _) _ _); refine TkE.mk _ L1 rfl ?_) | refine rgE ?_ | refine Cd.mk rfl ?_ | refine Br.t ?_ | refine ai.mk _ rfl ?_ | ((with_reducible refine EqE.idS ?_); (refine EqE.fP ?_; (conv => whnf); fail_if_success (show ae _ _))) | refine Cd.ol ?_ | refine Cd.os ?_)
   refine ft.data _ ?_ rfl
   repeat' ((conv => whnf); first | refine Cd.mk rfl ?_ | (refine TkE.fL ?_; (conv => whnf); fail_if_success (show ae _ _)))
   exact ⟨rfl, rfl⟩
  | some M =>
   rw [ho] at h s1
   cases h
   obtain ⟨⟨_, _⟩, ⟨_, _⟩⟩ := u
   obtain ⟨⟨_, _⟩, ⟨_, _⟩⟩ := R
   refine ju af Tryz.func106 ?_
   repeat' ((conv => whnf); first | ((with_reducible refine Br.dq ?hpp ?_); case hpp => first | omega | (dsimp only; omega)) | refine aa.mk _ _ (s1) ?_ | ((with_reducible show TkE (fa oc (a9 vs _)) (0 + Int.toNat a * _) _ _); refine TkE.mk _ L1 rfl ?_) | refine rgE ?_ | refine Cd.mk rfl ?_ | refine Br.t ?_ | refine ai.mk _ rfl ?_ | ((with_reducible refine EqE.idS ?_); (refine EqE.fP ?_; (conv => whnf); fail_if_success (show ae _ _))) | refine Cd.ol ?_ | refine Cd.os ?_)
   refine ft.data _ ?_ rfl
   repeat' ((conv => whnf); first | refine Cd.mk rfl ?_ | (refine TkE.fL ?_; (conv => whnf); fail_if_success (show ae _ _)))
   exact ⟨rfl, rfl⟩
end Go.Ev.Ar

namespace Go.Ev.Ar
open Go Go.Ev Go.Proofs
def atD (o : Except Int (List Rq)) : D := match o with
 | .ok vs => .tup [rqD (vs.getD (vs.length - 1) (ag, ag)), .int .i64 0]
 | .error c => .tup [rqD zR, .int .i64 c]
theorem atj (o : Except Int (List Rq)) : (atD o).sc = false := by cases o <;> rfl
theorem arz (z : Rq) : awk (c9 z) (c9 z) = c9 z := by
 unfold awk apz
 have e : ∀ d : Dyadic, mn d d = d ∧ mx d d = d := fun d => by unfold mn mx; constructor <;> split <;> rfl
 exact Prod.ext (Prod.ext (e _).1 (e _).2) (Prod.ext (e _).1 (e _).2)
theorem Nr.c9 {z : Rq} (h : Nr z) : Nr (c9 z) := by
 have one : ∀ c : Cq, Nq c.1 ∧ Nq c.2 → Nq (rof c).1 ∧ Nq (rof c).2 := fun c ⟨a, b⟩ => by
  unfold rof mn mx; dsimp only
  constructor
  ·split
   ·exact a
   ·exact b
  ·split <;> first | exact a | exact b
 exact ⟨one _ h.1, one _ h.2⟩
theorem Nr.okR {z : Rq} (h : Nr z) : okR z = true := aeb.2 ⟨⟨x7.2 h.1.1.2, x7.2 h.1.2.2⟩, x7.2 h.2.1.2, x7.2 h.2.2.2⟩
theorem a1s {vs : List Rq} {x : Nd} {X : Rq} {p : Int} (hv : ∀ j, j < vs.length → Gd (vs.getD j (ag, ag))) (hx : k9 x vs.length = true) (k7 : x.k ≤ 7) (hc : x.k = 2 → Nq x.r.val.1 ∧ Nq x.r.val.2) (gX : Gd X) (hp : 0 ≤ p ∧ p ≤ 200) :
  Hr 100000 (ca vs x X p).1 ∧ ((ca vs x X p).2 = 0 → okR (ca vs x X p).1 = true → Gd (ca vs x X p).1) := by
 obtain ⟨k1, k10, fa, fb, _, _, f7, f2⟩ := j7 hx
 have rd : ∀ M : Rq, Hr 97700 M → ox M → Hr 100000 (ba M (p + 20)) ∧ (okR (ba M (p + 20)) = true → Gd (ba M (p + 20))) := fun M hM oM =>
  ⟨(hM.ba (p := p + 20) (K := 220) (by omega)).mono (by decide), fun h => ⟨af0 (by omega) h, vu _ oM⟩⟩
 have ro : ∀ (r : Rq × Int), Hr 97700 r.1 → ox r.1 → Hr 100000 (roA r p).1 ∧ ((roA r p).2 = 0 → okR (roA r p).1 = true → Gd (roA r p).1) := fun r hM oM => by
  unfold roA; split
  ·exact ⟨(rd _ hM oM).1, fun _ => (rd _ hM oM).2⟩
  ·rename_i h; exact ⟨Hr.zero _, fun h' => absurd h' h⟩
 have gq : ∀ a : Int, 0 ≤ a → a < vs.length → Gd (vs.getD a.toNat (ag, ag)) := fun a h1 h2 => hv _ (by omega)
 have kc : x.k = 1 ∨ x.k = 2 ∨ x.k = 3 ∨ x.k = 4 ∨ x.k = 5 ∨ x.k = 6 ∨ x.k = 7 := by omega
 rcases kc with k | k | k | k | k | k | k
 ·have e : ca vs x X p = (X, 0) := by unfold ca; rw [if_pos k]
  rw [e]; exact ⟨gX.1.hr.mono (by decide), fun _ _ => gX⟩
 ·have e : ca vs x X p = (ptR x.r.val, 0) := by unfold ca; rw [if_neg (by omega), if_pos k]
  rw [e]
  have h := hc k
  have g : Gd (ptR x.r.val) := ⟨⟨⟨h.1, h.1⟩, h.2, h.2⟩, by unfold ox Ord ptR; dsimp only; exact ⟨by grind, by grind⟩⟩
  exact ⟨g.1.hr.mono (by decide), fun _ _ => g⟩
 ·obtain ⟨a0, a1⟩ := fa (by omega)
  obtain ⟨b0, b1⟩ := fb (by omega)
  have e : ca vs x X p = (ba (abh (vs.getD x.a.toNat (ag, ag)) (vs.getD x.b.toNat (ag, ag))) (p + 20), 0) := by unfold ca; rw [if_neg (by omega), if_neg (by omega), if_pos k]
  rw [e]
  have r := rd _ (Hr.mono (Hr.abh (gq _ a0 a1).1.hr (gq _ b0 b1).1.hr (c := 20301) (by decide)) (by decide)) (alx (gq _ a0 a1).2 (gq _ b0 b1).2)
  exact ⟨r.1, fun _ => r.2⟩
 ·obtain ⟨a0, a1⟩ := fa (by omega)
  obtain ⟨b0, b1⟩ := fb (by omega)
  have e : ca vs x X p = (ba (adw (vs.getD x.a.toNat (ag, ag)) (vs.getD x.b.toNat (ag, ag))) (p + 20), 0) := by unfold ca; rw [if_neg (by omega), if_neg (by omega), if_neg (by omega), if_pos k]
  rw [e]
  have r := rd _ (Hr.mono (Hr.adw (gq _ a0 a1).1.hr (gq _ b0 b1).1.hr (c := 20301) (by decide)) (by decide)) (ame (gq _ a0 a1).2 (gq _ b0 b1).2)
  exact ⟨r.1, fun _ => r.2⟩
 ·obtain ⟨a0, a1⟩ := fa (by omega)
  obtain ⟨b0, b1⟩ := fb (by omega)
  have e : ca vs x X p = (ba (if x.a = x.b then rsq (vs.getD x.a.toNat (ag, ag)) else ij (vs.getD x.a.toNat (ag, ag)) (vs.getD x.b.toNat (ag, ag))) (p + 20), 0) := by unfold ca; rw [if_neg (by omega), if_neg (by omega), if_neg (by omega), if_neg (by omega), if_pos k]
  rw [e]
  have r := rd (if x.a = x.b then rsq (vs.getD x.a.toNat (ag, ag)) else ij (vs.getD x.a.toNat (ag, ag)) (vs.getD x.b.toNat (ag, ag))) (by
   split
   ·exact Hr.mono (Hr.rsq (gq _ a0 a1).1.hr (c := 40700) (by decide)) (by decide)
   ·exact Hr.mono (Hr.ij (gq _ a0 a1).1.hr (gq _ b0 b1).1.hr (c := 40700) (by decide)) (by decide)) (by
   split
   ·exact aqz (gq _ a0 a1).2
   ·exact qu _ _)
  exact ⟨r.1, fun _ => r.2⟩
 ·obtain ⟨a0, a1⟩ := fa (by omega)
  obtain ⟨b0, b1⟩ := fb (by omega)
  have e : ca vs x X p = roA (fq (vs.getD x.a.toNat (ag, ag)) (vs.getD x.b.toNat (ag, ag)) (p + 20)) p := by unfold ca; rw [if_neg (by omega), if_neg (by omega), if_neg (by omega), if_neg (by omega), if_neg (by omega), if_pos k]
  rw [e]
  exact ro _ (Hr.mono (Hr.fq (gq _ a0 a1).1.hr (gq _ b0 b1).1.hr (p := p + 20) (K := 220) (by omega)) (by decide)) (alz _ _ _)
 ·obtain ⟨a0, a1⟩ := fa (by omega)
  have e : ca vs x X p = match vo (vs.getD x.a.toNat (ag, ag)) p x.n.toNat with | some r => (r, 0) | none => (zR, 13) := by unfold ca; rw [if_neg (by omega), if_neg (by omega), if_neg (by omega), if_neg (by omega), if_neg (by omega), if_neg (by omega), if_pos k]; rfl
  rw [e]
  have gp : ∀ n {r}, vo (vs.getD x.a.toNat (ag, ag)) p n = some r → Gd r := fun n => by
   cases n with
   | zero => intro r h; cases h; exact av1
   | succ n =>
    intro r h
    unfold vo at h
    rw [Option.bind_eq_some_iff] at h
    obtain ⟨s, hs, h⟩ := h
    split at h
    ·rename_i ok
     cases h
     exact ⟨af0 (by omega) ok, vu _ (qu _ _)⟩
    ·cases h
  cases ho : vo (vs.getD x.a.toNat (ag, ag)) p x.n.toNat with
  | none => exact ⟨Hr.zero _, fun h => absurd h (by decide)⟩
  | some r => exact ⟨(gp _ ho).1.hr.mono (by decide), fun _ _ => gp _ ho⟩
theorem atl {xs : List Nd} {X : Rq} {p : Int} {i : Nat} {vs : List Rq} {x : Nd} {R : Rq} (h : atL xs X p i = .ok vs) (hx : xs.getD i Nd.nil = x) (hs : ca vs x X p = (R, 0)) (hk : okR R = true) : atL xs X p (i + 1) = .ok (vs ++ [R]) := by
 unfold atL; rw [h, hx]; show (match fv vs x X p with | .error c => Except.error c | .ok r => .ok (vs ++ [r])) = _
 unfold fv; rw [hs]; dsimp only; rw [if_pos rfl, hk]; rfl
theorem atk {xs : List Nd} {X : Rq} {p c : Int} {i n : Nat} {vs : List Rq} {x : Nd} {R : Rq} (h : atL xs X p i = .ok vs) (hx : xs.getD i Nd.nil = x) (hs : ca vs x X p = (R, c)) (hc : ¬ c = 0) (hi : i < n) : atL xs X p n = .error c := by
 refine aew (i := i + 1) ?_ hi
 unfold atL; rw [h, hx]; show (match fv vs x X p with | .error c => Except.error c | .ok r => .ok (vs ++ [r])) = _
 unfold fv; rw [hs]; dsimp only; rw [if_neg hc]
theorem apf {xs : List Nd} {X : Rq} {p : Int} {i n : Nat} {vs : List Rq} {x : Nd} {R : Rq} (h : atL xs X p i = .ok vs) (hx : xs.getD i Nd.nil = x) (hs : ca vs x X p = (R, 0)) (hk : okR R = false) (hi : i < n) : atL xs X p n = .error 13 := by
 refine aew (i := i + 1) ?_ hi
 unfold atL; rw [h, hx]; show (match fv vs x X p with | .error c => Except.error c | .ok r => .ok (vs ++ [r])) = _
 unfold fv; rw [hs]; dsimp only; rw [if_pos rfl, hk]; rfl
theorem aum {vs : List Rq} {R : Rq} (h : ∀ j, j < vs.length → Gd (vs.getD j (ag, ag))) (hR : Gd R) : ∀ j, j < (vs ++ [R]).length → Gd ((vs ++ [R]).getD j (ag, ag)) := fun j hj => by
 rw [List.length_append] at hj
 have : j < vs.length ∨ j = vs.length := by simp at hj; omega
 rcases this with g | rfl
 ·rw [n7 g]; exact h j g
 ·rw [gj]; exact hR
set_option maxRecDepth 10000 in
set_option maxHeartbeats 16000000 in
theorem a0a {xs : List Nd} {X : Rq} {p : Int} (hn : xs.length < 2^62) (hl : ∀ x ∈ xs, x.r.l.length < 2^32 ∧ x.r.k.length < 2^32) (hx : gu xs = true) (hN : ∀ (i : Nat) (vs : List Rq) (Y R : Rq) (q c : Int), i < xs.length → vs.length = i → (∀ j, j < vs.length → Gd (vs.getD j (ag, ag))) → k9 (xs.getD i Nd.nil) vs.length = true → Gd Y → 0 ≤ q ∧ q ≤ 200 → ca vs (xs.getD i Nd.nil) Y q = (R, c) →
   jl Tryz.prog G0 106 [.d (.agg (xs.getD i Nd.nil).cells), .own 1000000 0 xs.length 12, .d (rqD Y), .d (.int .i64 q)] [(1000000, false, fa oc (a9 vs xs.length))] (.d (.tup [rqD R, .int .i64 c])) [(1000000, false, fa oc (a9 vs xs.length))] ∧ Hr 100000 R ∧ (c = 0 → okR R = true → Gd R)) (hX : Nr X) :
  Sim Tryz.prog G0 false 57 [nsl xs, rqD X, .int .i64 p] (atD (atL xs (c9 X) (min (max p 2) 200) xs.length)) := by
 have s0 := th xs hn hl
 rw [hx] at s0
 unfold gu at hx
 simp only [Bool.and_eq_true, decide_eq_true_eq, List.all_eq_true, List.mem_range] at hx
 obtain ⟨⟨n0, n40⟩, hall⟩ := hx
 have s1 := aj5 (hX.hr.mono (show 20300 ≤ 1000000 by decide)) hX.okR
 have s2 := asq (RqR.of (hX.hr.mono (show 20300 ≤ 1048576 by decide))) (RqR.of (hX.hr.mono (show 20300 ≤ 1048576 by decide))) (hX.hr.mono (by decide)) (hX.hr.mono (by decide)) (arz X)
 have gX : Gd (c9 X) := ⟨hX.c9, al6 X⟩
 generalize c9 X = Y at *
 obtain ⟨q, hq⟩ : ∃ q, min (max p 2) 200 = q := ⟨_, rfl⟩
 have hq2 : 0 ≤ q ∧ q ≤ 200 := by omega
 rw [hq]
 clear hX
 obtain ⟨⟨_, _⟩, ⟨_, _⟩⟩ := X
 obtain ⟨⟨Y1, Y2⟩, ⟨Y3, Y4⟩⟩ := Y
 have stp : ∀ (i : Nat) (vs : List Rq), i < xs.length → vs.length = i → (∀ j, j < vs.length → Gd (vs.getD j (ag, ag))) → ∀ R c, ca vs (xs.getD i Nd.nil) ((Y1, Y2), (Y3, Y4)) q = (R, c) →
   jl Tryz.prog G0 106 [.d (.agg (xs.getD i Nd.nil).cells), .own 1000000 0 xs.length 12, .d (rqD ((Y1, Y2), (Y3, Y4))), .d (.int .i64 q)] [(1000000, false, fa oc (a9 vs xs.length))] (.d (.tup [rqD R, .int .i64 c])) [(1000000, false, fa oc (a9 vs xs.length))] ∧
   Sim Tryz.prog G0 true 104 [rqD R] (.bool (okR R)) ∧ (c = 0 → okR R = true → Gd R) := fun i vs hi hv hg R c hR => by
  subst hv
  obtain ⟨q1, q2, q3⟩ := hN vs.length vs ((Y1, Y2), (Y3, Y4)) R q c hi rfl hg (hall _ hi) gX hq2 hR
  exact ⟨q1, aj5 (q2.mono (by decide)) rfl, q3⟩
 refine an (hs := (atj _)) af Tryz.func57 ?_
 repeat' ((conv => whnf); first | refine rgE ?_ | refine Cd.mk rfl ?_)
 refine amq af 0 rfl [0, 2, 4, 6, 8, 9] [4, 6, 30] (fun m ys h => ∃ (i : Nat) (vs : List Rq), m = xs.length - i ∧ i < xs.length ∧ vs.length = i ∧ atL xs ((Y1, Y2), (Y3, Y4)) q i = .ok vs ∧ (∀ j, j < vs.length → Gd (vs.getD j (ag, ag))) ∧
   ys = [.d (nsl xs), .d (.int .i64 q), .ptr 4 0, .ptr 6 0, .own 30 0 xs.length 12, .d (.int .i64 i)] ∧
   h = [(30, false, fa oc (a9 vs xs.length)), (6, false, zeA ++ zeA ++ zeA ++ zeA), (4, false, (oc (some ((Y1, Y2), (Y3, Y4)))).map A.d)]) ?_ ?_
 ·have hlt : 0 < xs.length := n0
  have hat : atL xs ((Y1, Y2), (Y3, Y4)) q 0 = .ok [] := rfl
  have hvl : ([] : List Rq).length = 0 := rfl
  have hg : ∀ j, j < ([] : List Rq).length → Gd (([] : List Rq).getD j (ag, ag)) := fun j hj => absurd hj (by simp)
  obtain ⟨⟨R, c⟩, hR⟩ : ∃ r, ca [] (xs.getD 0 Nd.nil) ((Y1, Y2), (Y3, Y4)) q = r := ⟨_, rfl⟩
  obtain ⟨st, isr, gdR⟩ := stp 0 [] hlt hvl hg R c hR
  have aok := fun (h0 : c = 0) hk => atl (R := R) hat rfl (show ca [] (xs.getD 0 Nd.nil) ((Y1, Y2), (Y3, Y4)) q = (R, 0) from h0 ▸ hR) hk
  have ano := fun hc => atk (n := xs.length) (R := R) (c := c) hat rfl hR hc hlt
  have abig := fun (h0 : c = 0) hk => apf (n := xs.length) (R := R) hat rfl (show ca [] (xs.getD 0 Nd.nil) ((Y1, Y2), (Y3, Y4)) q = (R, 0) from h0 ▸ hR) hk hlt
  have T1 := di xs 0 hlt
  clear hR
  generalize xs.getD 0 Nd.nil = x at *
  obtain ⟨k, a, b, n', ⟨b1, l1, e1, c1, k1, f1⟩⟩ := x
  obtain ⟨⟨R1, R2⟩, ⟨R3, R4⟩⟩ := R
  have S1 := abb (vs := []) ((R1, R2), (R3, R4)) hlt
  have L1 := qp (vs := []) ((R1, R2), (R3, R4)) hlt
  by_cases hc0 : c = 0
  ·subst hc0
   obtain ⟨t, ht⟩ : ∃ t, okR ((R1, R2), (R3, R4)) = t := ⟨_, rfl⟩
   rw [ht] at isr gdR aok abig
   cases t
   ·rw [abig rfl rfl]
    repeat' ((conv => whnf); first | with_reducible refine ah.data ?_ | refine dk.xk (C := ⟨[7], [], [30], [], []⟩) [(7, 106)] rfl rfl (by kernel_rfl) (by first | rfl | (simp only [kp, List.all_cons, List.all_nil, ay, j9, Bool.or_true, Bool.and_true]; first | done | rfl)) ?_ rfl | refine b8.mk (show Dw.mo _ _ _ _ = true by kernel_rfl) ?_ | refine aa.mk _ _ (s0) ?_ | refine aa.mk _ _ (s1) ?_ | refine aa.mk _ _ (s2) ?_ | refine EqE.mk _ (alc xs.length) ?_ | refine eh.au (st) [(1000000, 30)] [] (.d (.tup [rqD ((R1, R2), (R3, R4)), .int .i64 0])) [(30, false, fa oc (a9 [] xs.length))] ?_ | refine aa.mk _ _ (isr) ?_ | refine Cd.mk (bj xs _ (by omega)) ?_ | ((with_reducible show TkE (List.drop _ (List.flatMap Nd.cells _)) _ _ _); refine TkE.mk _ T1 rfl ?_) | refine rgE ?_ | refine Cd.mk rfl ?_ | refine Br.t ?_ | refine Br.f ?_ | refine ai.mk _ rfl ?_ | (refine TkE.fL ?_; (conv => whnf); fail_if_success (show ae _ _)) | refine Res.mk ?_ | ((with_reducible refine EqE.idI ?_); first | refine EqE.mk _ (max_eq _ _) ?_ | refine EqE.mk q ((min_eq _ _).trans hq) ?_) | ((with_reducible refine EqE.idS ?_); (refine EqE.fP ?_; (conv => whnf); fail_if_success (show ae _ _))) | refine Cd.ol ?_ | refine Cd.os ?_)
    rw [show atD (.error 13) = D.tup [rqD zR, .int .i64 13] from rfl, ← n4]; rfl
   ·have aok := aok rfl rfl
    have gd := gdR rfl rfl
    by_cases hnx : 0 + 1 < xs.length
    ·repeat' ((conv => whnf); first | with_reducible refine ah.data ?_ | refine dk.xk (C := ⟨[7], [], [30], [], []⟩) [(7, 106)] rfl rfl (by kernel_rfl) (by first | rfl | (simp only [kp, List.all_cons, List.all_nil, ay, j9, Bool.or_true, Bool.and_true]; first | done | rfl)) ?_ rfl | refine b8.mk (show Dw.mo _ _ _ _ = true by kernel_rfl) ?_ | refine aa.mk _ _ (s0) ?_ | refine aa.mk _ _ (s1) ?_ | refine aa.mk _ _ (s2) ?_ | refine EqE.mk _ (alc xs.length) ?_ | ((with_reducible refine Br.jm ?hpp ?_); case hpp => first | omega | (dsimp only; omega)) | refine eh.au (st) [(1000000, 30)] [] (.d (.tup [rqD ((R1, R2), (R3, R4)), .int .i64 0])) [(30, false, fa oc (a9 [] xs.length))] ?_ | refine aa.mk _ _ (isr) ?_ | refine Cd.mk (bj xs _ (by omega)) ?_ | ((with_reducible show TkE (List.drop _ (List.flatMap Nd.cells _)) _ _ _); refine TkE.mk _ T1 rfl ?_) | refine Cd.mk (rp (vs := []) hlt) ?_ | refine rgE ?_ | refine Cd.mk rfl ?_ | refine Br.f ?_ | refine ai.mk _ rfl ?_ | (refine TkE.fL ?_; (conv => whnf); fail_if_success (show ae _ _)) | ((with_reducible refine EqE.idW ?_); refine EqE.mk ((0 : Int) + 1) (ak (by omega) (by omega)) ?_) | ((with_reducible refine EqE.idI ?_); first | refine EqE.mk _ (max_eq _ _) ?_ | refine EqE.mk q ((min_eq _ _).trans hq) ?_) | ((with_reducible refine EqE.idS ?_); first | ((with_reducible show EqE (setAt (fa oc _) _ _) _); refine EqE.mk _ S1 ?_) | (refine EqE.fP ?_; (conv => whnf); fail_if_success (show ae _ _))) | refine Cd.ol ?_ | refine Cd.os ?_)
     exact ⟨_, _, _, ⟨.inl rfl, rfl, rfl, az _ _ _ _ _ _ rfl⟩, 1, [((R1, R2), (R3, R4))], rfl, hnx, rfl, aok, aum (vs := []) hg gd, rfl, rfl⟩
    ·have hlen : xs.length = 0 + 1 := by omega
     have fin : atD (atL xs ((Y1, Y2), (Y3, Y4)) q xs.length) = .tup [rqD ((R1, R2), (R3, R4)), .int .i64 0] := by
      rw [hlen, aok]; unfold atD; dsimp only; rw [List.length_append, List.length_singleton, Nat.add_sub_cancel, gj]
     rw [fin]
     repeat' ((conv => whnf); first | with_reducible refine ah.data ?_ | refine dk.xk (C := ⟨[7], [], [30], [], []⟩) [(7, 106)] rfl rfl (by kernel_rfl) (by first | rfl | (simp only [kp, List.all_cons, List.all_nil, ay, j9, Bool.or_true, Bool.and_true]; first | done | rfl)) ?_ rfl | refine b8.mk (show Dw.mo _ _ _ _ = true by kernel_rfl) ?_ | refine aa.mk _ _ (s0) ?_ | refine aa.mk _ _ (s1) ?_ | refine aa.mk _ _ (s2) ?_ | refine EqE.mk _ (alc xs.length) ?_ | ((with_reducible refine Br.dq ?hpp ?_); case hpp => first | omega | (dsimp only; omega)) | refine eh.au (st) [(1000000, 30)] [] (.d (.tup [rqD ((R1, R2), (R3, R4)), .int .i64 0])) [(30, false, fa oc (a9 [] xs.length))] ?_ | refine aa.mk _ _ (isr) ?_ | refine Cd.mk (bj xs _ (by omega)) ?_ | ((with_reducible show TkE (List.drop _ (List.flatMap Nd.cells _)) _ _ _); refine TkE.mk _ T1 rfl ?_) | refine Cd.mk (rp (vs := []) hlt) ?_ | ((with_reducible show TkE (fa oc (a9 _ _)) _ _ _); refine TkE.mk _ L1 rfl ?_) | refine rgE ?_ | refine Cd.mk rfl ?_ | refine Br.f ?_ | refine ai.mk _ rfl ?_ | (refine TkE.fL ?_; (conv => whnf); fail_if_success (show ae _ _)) | refine Res.mk ?_ | ((with_reducible refine EqE.idW ?_); first | refine EqE.mk ((0 : Int) + 1) (ak (by omega) (by omega)) ?_ | refine EqE.mk (0 : Int) ((ak (by omega) (by omega)).trans (by omega)) ?_) | ((with_reducible refine EqE.idI ?_); first | refine EqE.mk _ (max_eq _ _) ?_ | refine EqE.mk q ((min_eq _ _).trans hq) ?_) | ((with_reducible refine EqE.idS ?_); first | ((with_reducible show EqE (setAt (fa oc _) _ _) _); refine EqE.mk _ S1 ?_) | (refine EqE.fP ?_; (conv => whnf); fail_if_success (show ae _ _))) | refine Cd.ol ?_ | refine Cd.os ?_)
     rfl
  ·rw [ano hc0]
   repeat' ((conv => whnf); first | with_reducible refine ah.data ?_ | refine dk.xk (C := ⟨[7], [], [30], [], []⟩) [(7, 106)] rfl rfl (by kernel_rfl) (by first | rfl | (simp only [kp, List.all_cons, List.all_nil, ay, j9, Bool.or_true, Bool.and_true]; first | done | rfl)) ?_ rfl | refine b8.mk (show Dw.mo _ _ _ _ = true by kernel_rfl) ?_ | refine aa.mk _ _ (s0) ?_ | refine aa.mk _ _ (s1) ?_ | refine aa.mk _ _ (s2) ?_ | refine EqE.mk _ (alc xs.length) ?_ | with_reducible refine Br.acf (fun _ => ?_) (fun h => absurd h hc0) | refine eh.au (st) [(1000000, 30)] [] (.d (.tup [rqD ((R1, R2), (R3, R4)), .int .i64 c])) [(30, false, fa oc (a9 [] xs.length))] ?_ | refine Cd.mk (bj xs _ (by omega)) ?_ | ((with_reducible show TkE (List.drop _ (List.flatMap Nd.cells _)) _ _ _); refine TkE.mk _ T1 rfl ?_) | refine rgE ?_ | refine Cd.mk rfl ?_ | refine Br.f ?_ | refine ai.mk _ rfl ?_ | (refine TkE.fL ?_; (conv => whnf); fail_if_success (show ae _ _)) | refine Res.mk ?_ | ((with_reducible refine EqE.idI ?_); first | refine EqE.mk _ (max_eq _ _) ?_ | refine EqE.mk q ((min_eq _ _).trans hq) ?_) | ((with_reducible refine EqE.idS ?_); (refine EqE.fP ?_; (conv => whnf); fail_if_success (show ae _ _))) | refine Cd.ol ?_ | refine Cd.os ?_)
   rw [show atD (.error c) = D.tup [rqD zR, .int .i64 c] from rfl, ← n4]; rfl
 ·rintro m ys h ⟨i, vs, rfl, hlt, hvl, hat, hg, rfl, rfl⟩
  obtain ⟨⟨R, c⟩, hR⟩ : ∃ r, ca vs (xs.getD i Nd.nil) ((Y1, Y2), (Y3, Y4)) q = r := ⟨_, rfl⟩
  obtain ⟨st, isr, gdR⟩ := stp i vs hlt hvl hg R c hR
  have aok := fun (h0 : c = 0) hk => atl (R := R) hat rfl (show ca vs (xs.getD i Nd.nil) ((Y1, Y2), (Y3, Y4)) q = (R, 0) from h0 ▸ hR) hk
  have ano := fun hc => atk (n := xs.length) (R := R) (c := c) hat rfl hR hc hlt
  have abig := fun (h0 : c = 0) hk => apf (n := xs.length) (R := R) hat rfl (show ca vs (xs.getD i Nd.nil) ((Y1, Y2), (Y3, Y4)) q = (R, 0) from h0 ▸ hR) hk hlt
  have T1 := di xs i hlt
  clear hR
  generalize xs.getD i Nd.nil = x at *
  obtain ⟨k, a, b, n', ⟨b1, l1, e1, c1, k1, f1⟩⟩ := x
  obtain ⟨⟨R1, R2⟩, ⟨R3, R4⟩⟩ := R
  subst hvl
  have S1 := abb (vs := vs) ((R1, R2), (R3, R4)) hlt
  have L1 := qp (vs := vs) ((R1, R2), (R3, R4)) hlt
  by_cases hc0 : c = 0
  ·subst hc0
   obtain ⟨t, ht⟩ : ∃ t, okR ((R1, R2), (R3, R4)) = t := ⟨_, rfl⟩
   rw [ht] at isr gdR aok abig
   cases t
   ·rw [abig rfl rfl]
    repeat' ((conv => whnf); first | with_reducible refine ah.data ?_ | refine dk.xk (C := ⟨[7], [], [30], [], []⟩) [(7, 106)] rfl rfl (by kernel_rfl) (by first | rfl | (simp only [kp, List.all_cons, List.all_nil, ay, j9, Bool.or_true, Bool.and_true]; first | done | rfl)) ?_ rfl | refine b8.mk (show Dw.mo _ _ _ _ = true by kernel_rfl) ?_ | refine eh.au (st) [(1000000, 30)] [] (.d (.tup [rqD ((R1, R2), (R3, R4)), .int .i64 0])) [(30, false, fa oc (a9 vs xs.length))] ?_ | refine aa.mk _ _ (isr) ?_ | refine Cd.mk (bj xs _ (by omega)) ?_ | ((with_reducible show TkE (List.drop _ (List.flatMap Nd.cells _)) _ _ _); refine TkE.mk _ T1 rfl ?_) | refine rgE ?_ | refine Cd.mk rfl ?_ | refine Br.t ?_ | refine Br.f ?_ | refine ai.mk _ rfl ?_ | (refine TkE.fL ?_; (conv => whnf); fail_if_success (show ae _ _)) | refine Res.mk ?_ | ((with_reducible refine EqE.idS ?_); (refine EqE.fP ?_; (conv => whnf); fail_if_success (show ae _ _))) | refine Cd.ol ?_)
    rw [show atD (.error 13) = D.tup [rqD zR, .int .i64 13] from rfl, ← n4]; rfl
   ·have aok := aok rfl rfl
    have gd := gdR rfl rfl
    by_cases hnx : vs.length + 1 < xs.length
    ·repeat' ((conv => whnf); first | with_reducible refine ah.data ?_ | refine dk.xk (C := ⟨[7], [], [30], [], []⟩) [(7, 106)] rfl rfl (by kernel_rfl) (by first | rfl | (simp only [kp, List.all_cons, List.all_nil, ay, j9, Bool.or_true, Bool.and_true]; first | done | rfl)) ?_ rfl | refine b8.mk (show Dw.mo _ _ _ _ = true by kernel_rfl) ?_ | ((with_reducible refine Br.jm ?hpp ?_); case hpp => first | omega | (dsimp only; omega)) | refine eh.au (st) [(1000000, 30)] [] (.d (.tup [rqD ((R1, R2), (R3, R4)), .int .i64 0])) [(30, false, fa oc (a9 vs xs.length))] ?_ | refine aa.mk _ _ (isr) ?_ | refine Cd.mk (bj xs _ (by omega)) ?_ | ((with_reducible show TkE (List.drop _ (List.flatMap Nd.cells _)) _ _ _); refine TkE.mk _ T1 rfl ?_) | refine Cd.mk (rp (vs := vs) hlt) ?_ | refine ao.go _ _ ⟨.inl rfl, rfl, rfl, az _ _ _ _ _ _ rfl⟩ ?_ | refine rgE ?_ | refine Cd.mk rfl ?_ | refine Br.f ?_ | refine ai.mk _ rfl ?_ | (refine TkE.fL ?_; (conv => whnf); fail_if_success (show ae _ _)) | ((with_reducible refine EqE.idW ?_); refine EqE.mk ((((vs.length : Nat) : Int) : Int) + 1) (ak (by omega) (by omega)) ?_) | ((with_reducible refine EqE.idS ?_); first | ((with_reducible show EqE (setAt (fa oc _) _ _) _); refine EqE.mk _ S1 ?_) | (refine EqE.fP ?_; (conv => whnf); fail_if_success (show ae _ _))) | refine Cd.ol ?_ | refine Cd.os ?_)
     exact ⟨_, ⟨vs.length + 1, vs ++ [((R1, R2), (R3, R4))], rfl, hnx, by simp, aok, aum hg gd, rfl, rfl⟩, by omega⟩
    ·have hlen : xs.length = vs.length + 1 := by omega
     have fin : atD (atL xs ((Y1, Y2), (Y3, Y4)) q xs.length) = .tup [rqD ((R1, R2), (R3, R4)), .int .i64 0] := by
      rw [hlen, aok]; unfold atD; dsimp only; rw [List.length_append, List.length_singleton, Nat.add_sub_cancel, gj]
     rw [fin]
     repeat' ((conv => whnf); first | with_reducible refine ah.data ?_ | refine dk.xk (C := ⟨[7], [], [30], [], []⟩) [(7, 106)] rfl rfl (by kernel_rfl) (by first | rfl | (simp only [kp, List.all_cons, List.all_nil, ay, j9, Bool.or_true, Bool.and_true]; first | done | rfl)) ?_ rfl | refine b8.mk (show Dw.mo _ _ _ _ = true by kernel_rfl) ?_ | ((with_reducible refine Br.dq ?hpp ?_); case hpp => first | omega | (dsimp only; omega)) | refine eh.au (st) [(1000000, 30)] [] (.d (.tup [rqD ((R1, R2), (R3, R4)), .int .i64 0])) [(30, false, fa oc (a9 vs xs.length))] ?_ | refine aa.mk _ _ (isr) ?_ | refine Cd.mk (bj xs _ (by omega)) ?_ | ((with_reducible show TkE (List.drop _ (List.flatMap Nd.cells _)) _ _ _); refine TkE.mk _ T1 rfl ?_) | refine Cd.mk (rp (vs := vs) hlt) ?_ | ((with_reducible show TkE (fa oc (a9 _ _)) _ _ _); refine TkE.mk _ L1 rfl ?_) | refine rgE ?_ | refine Cd.mk rfl ?_ | refine Br.f ?_ | refine ai.mk _ rfl ?_ | (refine TkE.fL ?_; (conv => whnf); fail_if_success (show ae _ _)) | refine Res.mk ?_ | ((with_reducible refine EqE.idW ?_); first | refine EqE.mk ((((vs.length : Nat) : Int) : Int) + 1) (ak (by omega) (by omega)) ?_ | refine EqE.mk (((vs.length : Nat) : Int) : Int) ((ak (by omega) (by omega)).trans (by omega)) ?_) | ((with_reducible refine EqE.idS ?_); first | ((with_reducible show EqE (setAt (fa oc _) _ _) _); refine EqE.mk _ S1 ?_) | (refine EqE.fP ?_; (conv => whnf); fail_if_success (show ae _ _))) | refine Cd.ol ?_ | refine Cd.os ?_)
     rfl
  ·rw [ano hc0]
   repeat' ((conv => whnf); first | refine dk.xk (C := ⟨[7], [], [30], [], []⟩) [(7, 106)] rfl rfl (by kernel_rfl) (by first | rfl | (simp only [kp, List.all_cons, List.all_nil, ay, j9, Bool.or_true, Bool.and_true]; first | done | rfl)) ?_ rfl | refine b8.mk (show Dw.mo _ _ _ _ = true by kernel_rfl) ?_ | with_reducible refine Br.acf (fun _ => ?_) (fun h => absurd h hc0) | refine eh.au (st) [(1000000, 30)] [] (.d (.tup [rqD ((R1, R2), (R3, R4)), .int .i64 c])) [(30, false, fa oc (a9 vs xs.length))] ?_ | refine Cd.mk (bj xs _ (by omega)) ?_ | ((with_reducible show TkE (List.drop _ (List.flatMap Nd.cells _)) _ _ _); refine TkE.mk _ T1 rfl ?_) | refine rgE ?_ | refine Cd.mk rfl ?_ | refine ai.mk _ rfl ?_ | (refine TkE.fL ?_; (conv => whnf); fail_if_success (show ae _ _)) | refine Res.mk ?_ | ((with_reducible refine EqE.idS ?_); (refine EqE.fP ?_; (conv => whnf); fail_if_success (show ae _ _))) | refine Cd.ol ?_)
   rw [show atD (.error c) = D.tup [rqD zR, .int .i64 c] from rfl, ← n4]; rfl
end Go.Ev.Ar

namespace Go.Ev.Ar
open Go Go.Ev Go.Proofs
abbrev bH (es : List Nd) : Hp := [(1000000, false, [.own 2000000 0 es.length 10]), (2000000, false, fa Nd.cells es)]
theorem a1r (es : List Nd) (x : Nd) : fa Nd.cells es ++ x.cells.map A.d = fa Nd.cells (es ++ [x]) := by
 unfold fa; rw [List.flatMap_append, List.map_append]; simp
theorem a1t (es : List Nd) : (fa Nd.cells es).length = es.length * 10 := nn Nd.len es
theorem aqc (es : List Nd) (x : Nd) : (es ++ [x]).length = es.length + 1 := by simp
set_option maxHeartbeats 4000000 in
theorem aag (es : List Nd) (x : Nd) (h : es.length < 10000) : jl Tryz.prog G0 166 [.ptr 1000000 0, .d (.agg x.cells)] (bH es) (.d (.int .i64 es.length)) (bH (es ++ [x])) := by
 have a1 := a1r es x
 have a2 := a1t es
 show jl _ _ _ _ _ _ [(1000000, false, [.own 2000000 0 (es ++ [x]).length 10]), (2000000, false, fa Nd.cells (es ++ [x]))]
 rw [aqc]
 obtain ⟨k, a, b, n', ⟨b1, l1, e1, c1, k1, f1⟩⟩ := x
 refine ju af Tryz.func166 ?_
 repeat' ((conv => whnf); first | refine dk.xk (C := ⟨[7], [], [1000000, 2000000], [2000000], [9, 12]⟩) [(7, 0)] rfl rfl (by kernel_rfl) (by first | rfl | (simp only [kp, List.all_cons, List.all_nil, ay, j9, Bool.or_true, Bool.and_true]; first | done | rfl)) ?_ rfl | refine b8.mk (show Dw.mo _ _ _ _ = true by kernel_rfl) ?_ | refine Cd.mk (pn rfl) ?_ | refine EqE.mk _ a1 ?_ | refine Cd.mk (show (fa Nd.cells es).length = es.length * 10 from a2) ?_ | refine DsE.mk (Nd.cells ⟨k, a, b, n', ⟨b1, l1, e1, c1, k1, f1⟩⟩) rfl ?_ | refine DsE.mk (es.flatMap Nd.cells) rfl ?_ | refine rgE ?_ | refine Cd.mk rfl ?_ | refine ai.mk _ rfl ?_ | (refine TkE.fL ?_; (conv => whnf); fail_if_success (show ae _ _)) | ((with_reducible refine EqE.idW ?_); refine EqE.mk (es.length : Int) ((ak (by omega) (by omega)).trans (by omega)) ?_) | ((with_reducible refine EqE.idS ?_); (refine EqE.fP ?_; (conv => whnf); fail_if_success (show ae _ _))) | refine Cd.ol ?_ | refine Cd.mk ⟨rfl, rfl⟩ ?_ | refine Cd.os ?_)
 exact ft.own 4 rfl rfl rfl
def cN (n : Int) : Nd := ⟨2, 0, 0, 0, ⟨a7 (aj (dof n 0)), ofN (aj (dof n 0)).natAbs, ar (dof n 0), false, [], 0⟩⟩
def adF (es : List Nd) (x : Nd) : List Nd × Int := (es ++ [x], es.length)
def tmF (es : List Nd) (x y : Int) : List Nd × Int := if x = -1 ∨ y = -1 then (es, -1) else adF es ⟨5, x, y, 0, RC.nil⟩
def plF (es : List Nd) (x y k : Int) : List Nd × Int :=
 if y = -1 then (es, x) else if x = -1 ∧ k = 3 then (es, y) else if x = -1 then adF (es ++ [cN 0]) ⟨k, es.length, y, 0, RC.nil⟩ else adF es ⟨k, x, y, 0, RC.nil⟩
abbrev BO (f : FuncId) (es : List Nd) (args : List A) (r : List Nd × Int) : Prop := jl Tryz.prog G0 f (.ptr 1000000 0 :: args) (bH es) (.d (.int .i64 r.2)) (bH r.1)
theorem ad1 (es : List Nd) (n : Int) (h : es.length < 10000) (hn : -9223372036854775808 ≤ n ∧ n ≤ 9223372036854775807) : BO 163 es [.d (.int .i64 n)] (adF es (cN n)) := by
 have a1 := aag es (cN n) h
 have s1 := so n hn.1 hn.2
 show jl _ _ _ _ (bH es) (.d (.int .i64 es.length)) (bH (es ++ [cN n]))
 refine ju af Tryz.func163 ?_
 repeat' ((conv => whnf); first | refine ah.own (jr.au (a1) [(1000000, 1000000), (2000000, 2000000)] [] (.d (.int .i64 es.length)) (bH (es ++ [cN n])) [] ?_) | with_reducible refine ah.data ?_ | refine aa.mk _ _ (s1) ?_ | refine rgE ?_ | refine Cd.mk rfl ?_ | refine Cd.ol ?_)
 exact ft.own 4 rfl rfl rfl
theorem mg (es : List Nd) (x y : Int) (h : es.length < 10000) : BO 165 es [.d (.int .i64 x), .d (.int .i64 y)] (tmF es x y) := by
 unfold tmF
 by_cases c : x = -1 ∨ y = -1
 ·rw [if_pos c]
  show jl _ _ _ _ (bH es) (.d (.int .i64 (-1))) (bH es)
  by_cases hx : x = -1
  ·refine ju af Tryz.func165 ?_
   repeat' ((conv => whnf); first | ((with_reducible refine Br.jm ?hpp ?_); case hpp => first | omega | (dsimp only; omega)) | refine rgE ?_ | refine Cd.mk rfl ?_ | refine Br.t ?_)
   exact ft.own 6 rfl rfl rfl
  ·have hy : y = -1 := by omega
   refine ju af Tryz.func165 ?_
   repeat' ((conv => whnf); first | ((with_reducible refine Br.jm ?hpp ?_); case hpp => first | omega | (dsimp only; omega)) | ((with_reducible refine Br.dq ?hpp ?_); case hpp => first | omega | (dsimp only; omega)) | refine rgE ?_ | refine Cd.mk rfl ?_ | refine Br.f ?_)
   exact ft.own 6 rfl rfl rfl
 ·rw [if_neg c]
  have hx : ¬ x = -1 := fun e => c (.inl e)
  have hy : ¬ y = -1 := fun e => c (.inr e)
  have a1 := aag es ⟨5, x, y, 0, RC.nil⟩ h
  show jl _ _ _ _ (bH es) (.d (.int .i64 es.length)) (bH (es ++ [⟨5, x, y, 0, RC.nil⟩]))
  refine ju af Tryz.func165 ?_
  repeat' ((conv => whnf); first | refine ah.own (jr.au (a1) [(1000000, 1000000), (2000000, 2000000)] [] (.d (.int .i64 es.length)) (bH (es ++ [⟨5, x, y, 0, RC.nil⟩])) [] ?_) | ((with_reducible refine Br.dq ?hpp ?_); case hpp => first | omega | (dsimp only; omega)) | refine rgE ?_ | refine Cd.mk rfl ?_ | refine Br.f ?_ | refine Cd.ol ?_)
  exact ft.own 6 rfl rfl rfl
theorem ad2 (es : List Nd) (x y k : Int) (h : es.length < 9000) : BO 164 es [.d (.int .i64 x), .d (.int .i64 y), .d (.int .i64 k)] (plF es x y k) := by
 unfold plF
 by_cases hy : y = -1
 ·rw [if_pos hy]
  show jl _ _ _ _ (bH es) (.d (.int .i64 x)) (bH es)
  refine ju af Tryz.func164 ?_
  repeat' ((conv => whnf); first | ((with_reducible refine Br.jm ?hpp ?_); case hpp => first | omega | (dsimp only; omega)) | refine rgE ?_ | refine Cd.mk rfl ?_)
  exact ft.own 8 rfl rfl rfl
 rw [if_neg hy]
 by_cases hx : x = -1
 ·by_cases hk : k = 3
  ·rw [if_pos ⟨hx, hk⟩]
   show jl _ _ _ _ (bH es) (.d (.int .i64 y)) (bH es)
   refine ju af Tryz.func164 ?_
   repeat' ((conv => whnf); first | ((with_reducible refine Br.jm ?hpp ?_); case hpp => first | omega | (dsimp only; omega)) | ((with_reducible refine Br.dq ?hpp ?_); case hpp => first | omega | (dsimp only; omega)) | refine rgE ?_ | refine Cd.mk rfl ?_ | refine Br.t ?_)
   exact ft.own 8 rfl rfl rfl
  ·rw [if_neg (fun g => hk g.2), if_pos hx]
   have a0 := ad1 es 0 (by omega) (by decide)
   have a1 := aag (es ++ [cN 0]) ⟨k, es.length, y, 0, RC.nil⟩ (by rw [aqc]; omega)
   show jl _ _ _ _ (bH es) (.d (.int .i64 (es ++ [cN 0]).length)) (bH ((es ++ [cN 0]) ++ [⟨k, es.length, y, 0, RC.nil⟩]))
   refine ju af Tryz.func164 ?_
   repeat' ((conv => whnf); first | refine ah.own (jr.au (a0) [(1000000, 1000000), (2000000, 2000000)] [] (.d (.int .i64 es.length)) (bH (es ++ [cN 0])) [] ?_) | refine ah.own (jr.au (a1) [(1000000, 1000000), (2000000, 2000000)] [] (.d (.int .i64 (es ++ [cN 0]).length)) (bH ((es ++ [cN 0]) ++ [⟨k, es.length, y, 0, RC.nil⟩])) [] ?_) | ((with_reducible refine Br.jm ?hpp ?_); case hpp => first | omega | (dsimp only; omega)) | ((with_reducible refine Br.dq ?hpp ?_); case hpp => first | omega | (dsimp only; omega)) | refine rgE ?_ | refine Cd.mk rfl ?_ | refine Br.t ?_ | refine Cd.ol ?_)
   exact ft.own 8 rfl rfl rfl
 ·rw [if_neg (fun g => hx g.1), if_neg hx]
  have a1 := aag es ⟨k, x, y, 0, RC.nil⟩ (by omega)
  show jl _ _ _ _ (bH es) (.d (.int .i64 es.length)) (bH (es ++ [⟨k, x, y, 0, RC.nil⟩]))
  refine ju af Tryz.func164 ?_
  repeat' ((conv => whnf); first | refine ah.own (jr.au (a1) [(1000000, 1000000), (2000000, 2000000)] [] (.d (.int .i64 es.length)) (bH (es ++ [⟨k, x, y, 0, RC.nil⟩])) [] ?_) | ((with_reducible refine Br.dq ?hpp ?_); case hpp => first | omega | (dsimp only; omega)) | refine rgE ?_ | refine Cd.mk rfl ?_ | refine Br.f ?_ | refine Cd.ol ?_)
  exact ft.own 8 rfl rfl rfl
end Go.Ev.Ar
