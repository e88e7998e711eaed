/- Contracts of the given functions, on data. Conditions stand in each theorem. -/
import Derived.Test.YtagjickjfjgfpaaGreatDoorGEvR
import Derived.Test.YtagjickjfjgfpaaGreatDoorGAvVk
import Derived.Test.YtagjickjfjgfpaaGreatDoorGAvQuot
import Derived.Test.YtagjickjfjgfpaaGreatDoorGEvEc
import Derived.Test.YtagjickjfjgfpaaGreatDoorGAvWDiv
set_option linter.unusedSimpArgs false
set_option linter.unusedVariables false
namespace Go.Ev.Ar
open Go Go.Ev Go.Proofs
theorem yb {x : D} {p : Dyadic} (n : Int) (hx : DyR x p) (hp : Ht 25000 p) (hK : (min (max n 0) 64).toNat ≤ 2) : Sim Tryz.prog G0 false 229 [x, .int .i64 n] (dyD (p ^ (min (max n 0) 64).toNat)) := by
 have kx := hx
 obtain ⟨b, l, e, hl, h1, h2, _⟩ := hx
 generalize dof (zv b l) e = p at *
 refine an af Tryz.func229 ?_
 repeat' ((conv => whnf); first | with_reducible refine ah.data ?_ | refine aa.mk _ _ (pd kx) ?_ | refine aa.mk _ _ (so _ (by decide) (by decide)) ?_ | refine rgE ?_ | refine Cd.mk rfl ?_ | (refine TkE.fL ?_; (conv => whnf); fail_if_success (show ae _ _)) | ((with_reducible refine EqE.idI ?_); first | refine EqE.mk _ (max_eq _ _) ?_ | refine EqE.mk _ (min_eq _ _) ?_) | ((with_reducible refine EqE.idS ?_); (refine EqE.fP ?_; (conv => whnf); fail_if_success (show ae _ _))) | refine Cd.ol ?_)
 refine ⟨[], [2, 4, 5, 11, 12], [2, 4, 5], fun m ys h => ∃ (i : Nat), m = (min (max n 0) 64).toNat - i ∧ i ≤ (min (max n 0) 64).toNat ∧ ys = [.ptr 2 0, .ptr 4 0, .ptr 5 0, .d (.int .i64 (min (max n 0) 64)), .d (.int .i64 i)] ∧
  h = [(5, false, dyA (p ^ i)), (4, false, zeA), (2, false, dyA p)],
  ⟨_, _, _, ⟨.inl rfl, rfl, rfl, by first | rfl | (repeat first | exact all_nil _ | refine bn _ _ _ _ _ ?_)⟩, 0, rfl, by omega, rfl, ?_⟩, ?_⟩
 ·rw [Dyadic.pow_zero]; rfl
 rintro m ys h ⟨i, rfl, hi, rfl, rfl⟩
 obtain ⟨hp1, hp2, hp3⟩ := hp.parts
 by_cases hlt : i < (min (max n 0) 64).toNat
 ·have hpi := (hp.pow i).mono (show 25000 * i + 1 ≤ 60000 by omega)
  obtain ⟨hq1, hq2, hq3⟩ := hpi.parts
  have hz := hq1.mul hp1 (c := 2080002) (by decide)
  repeat' ((conv => whnf); first | with_reducible refine Br.bt fun _ => ?_ | refine aa.mk _ _ (amv (.of (n := aj (p ^ i)) (hq1.mono (by decide))) (.of (n := aj p) (hp1.mono (by decide)))) ?_ | refine aa.mk _ _ (k5 (.of (hz.mono (by decide))) (hz.mono (by decide)) (by omega) (by omega)) ?_ | refine rgE ?_ | refine Cd.mk rfl ?_ | refine ai.mk _ rfl ?_ | (refine TkE.fL ?_; (conv => whnf); fail_if_success (show ae _ _)) | refine ao.cu _ _ ?_ | ((with_reducible refine EqE.idW ?_); first | with_reducible refine EqE.mk _ (a5 _ (by omega)) ?_ | refine EqE.mk _ (ak (by omega) (by omega)) ?_) | ((with_reducible refine EqE.idS ?_); (refine EqE.fP ?_; (conv => whnf); fail_if_success (show ae _ _))) | refine Cd.ol ?_)
  refine ⟨_, ⟨i + 1, rfl, by omega, rfl, ?_⟩, by omega⟩
  have e : p ^ (i + 1) = dof (aj (p ^ i) * aj p) (ar (p ^ i) + ar p) := by rw [← o9, br, br, Dyadic.pow_succ]
  rw [e]; rfl
 ·have e : i = (min (max n 0) 64).toNat := by omega
  repeat' ((conv => whnf); first | with_reducible refine Br.bf fun _ => ?_ | refine rgE ?_ | refine Cd.mk rfl ?_ | (refine TkE.fL ?_; (conv => whnf); fail_if_success (show ae _ _)) | refine Res.mk ?_ | ((with_reducible refine EqE.idS ?_); (refine EqE.fP ?_; (conv => whnf); fail_if_success (show ae _ _))) | refine Cd.ol ?_)
  show dyD _ = dyD (p ^ i)
  rw [e]
theorem asg {x : D} {z r : Cq} (n : Int) (hx : CxR x z) (hz : Hc 25000 z) (hK : kq n ≤ 2) (h : ib (rof z) n = r) : Sim Tryz.prog G0 false 206 [x, .int .i64 n] (cxD r) := by
 subst h
 have ho := lr z
 have hr := hz.rof
 have s := mz hx (hz.mono (by decide)) rfl
 generalize rof z = r at *
 have ab := awl (.of (hr.mono (by decide))) (hr.mono (by decide)) rfl
 rw [cn ho] at ab
 have ha := hr.r8
 have hn : (min (max n 0) 64).toNat = kq n := rfl
 have hc : min (max (min (max n 0) 64) 0) 64 = min (max n 0) 64 := by omega
 have ht : (min (max n 0) 64).tmod 2 = ((kq n % 2 : Nat) : Int) := by
  rw [Int.tmod_eq_emod_of_nonneg (by omega)]; unfold kq; omega
 unfold ib
 generalize r8 r = a at *
 obtain ⟨p, q⟩ := r
 obtain ⟨p', q'⟩ := a
 have d1 := yb (p := p) (min (max n 0) 64) (.of (hr.1.mono (by decide))) hr.1 (by rw [hc]; exact hK)
 have d2 := yb (p := q) (min (max n 0) 64) (.of (hr.2.mono (by decide))) hr.2 (by rw [hc]; exact hK)
 have d3 := yb (p := p') (min (max n 0) 64) (.of (ha.1.mono (by decide))) ha.1 (by rw [hc]; exact hK)
 have d4 := yb (p := q') (min (max n 0) 64) (.of (ha.2.mono (by decide))) ha.2 (by rw [hc]; exact hK)
 rw [hc, hn] at d1 d2 d3 d4
 obtain ⟨_, _⟩ := hx
 refine an af Tryz.func206 ?_
 by_cases hp : kq n % 2 = 0
 ·rw [if_pos hp]
  rw [hp] at ht
  repeat' ((conv => whnf); first | with_reducible refine ah.data ?_ | refine aa.mk _ _ (s) ?_ | refine aa.mk _ _ (ab) ?_ | refine aa.mk _ _ (d3) ?_ | refine aa.mk _ _ (d4) ?_ | refine rgE ?_ | refine Cd.mk rfl ?_ | refine Br.t ?_ | (refine TkE.fL ?_; (conv => whnf); fail_if_success (show ae _ _)) | refine Res.mk ?_ | ((with_reducible refine EqE.idM ?_); refine EqE.mk _ ht ?_) | ((with_reducible refine EqE.idI ?_); first | refine EqE.mk _ (max_eq _ _) ?_ | refine EqE.mk _ (min_eq _ _) ?_) | ((with_reducible refine EqE.idS ?_); (refine EqE.fP ?_; (conv => whnf); fail_if_success (show ae _ _))) | refine Cd.ol ?_ | refine Cd.os ?_)
  rfl
 ·rw [if_neg hp]
  have hp1 : kq n % 2 = 1 := by omega
  rw [hp1] at ht
  repeat' ((conv => whnf); first | with_reducible refine ah.data ?_ | refine aa.mk _ _ (s) ?_ | refine aa.mk _ _ (d1) ?_ | refine aa.mk _ _ (d2) ?_ | refine rgE ?_ | refine Cd.mk rfl ?_ | refine Br.f ?_ | (refine TkE.fL ?_; (conv => whnf); fail_if_success (show ae _ _)) | refine Res.mk ?_ | ((with_reducible refine EqE.idM ?_); refine EqE.mk _ ht ?_) | ((with_reducible refine EqE.idI ?_); first | refine EqE.mk _ (max_eq _ _) ?_ | refine EqE.mk _ (min_eq _ _) ?_) | ((with_reducible refine EqE.idS ?_); (refine EqE.fP ?_; (conv => whnf); fail_if_success (show ae _ _))) | refine Cd.ol ?_ | refine Cd.os ?_)
  rfl
theorem px {x : D} {z r : Cq} (hx : CxR x z) (hz : Hc 25000 z) (h : ib (rof z) 2 = r) : Sim Tryz.prog G0 false 180 [x] (cxD r) := by
 have s := asg 2 hx hz (by decide) h
 obtain ⟨_, _⟩ := hx
 refine an af Tryz.func180 ?_
 repeat' ((conv => whnf); first | with_reducible refine ah.data ?_ | refine aa.mk _ _ (s) ?_ | refine rgE ?_ | refine Cd.mk rfl ?_ | (refine TkE.fL ?_; (conv => whnf); fail_if_success (show ae _ _)) | refine Res.mk ?_ | ((with_reducible refine EqE.idS ?_); (refine EqE.fP ?_; (conv => whnf); fail_if_success (show ae _ _))) | refine Cd.ol ?_)
 rfl
theorem ajx {x : D} {z r : Rq} (hx : RcR x z.1 z.2) (hz : Hr 20400 z) (h : rsq (c9 z) = r) : Sim Tryz.prog G0 false 135 [x] (rqD r) := by
 subst h
 obtain ⟨a, b⟩ := z
 obtain ⟨h1, h2⟩ := hx
 have g1 := px h1 (hz.1.mono (by decide)) rfl
 have g2 := px h2 (hz.2.mono (by decide)) rfl
 have k1 : Hc 40801 (ib (rof a) 2) := hz.1.rof.ib 2 ac3 (by decide)
 have k2 : Hc 40801 (ib (rof b) 2) := hz.2.rof.ib 2 ac3 (by decide)
 have m := qt (r := b7 (rof a) (rof b)) h1 h2 (hz.1.mono (by decide)) (hz.2.mono (by decide)) (by rw [qm, ar1])
 have km : Hc 40800 (b7 (rof a) (rof b)) := hz.1.rof.b7 hz.2.rof (by decide)
 have t := aou (.of (km.mono (by decide))) (km.mono (by decide)) (au0 (jd _ _))
 have s := abj (r := ve (ib (rof a) 2) (ib (rof b) 2)) (.of (k1.mono (by decide))) (.of (k2.mono (by decide))) (k1.mono (by decide)) (k2.mono (by decide)) (by rw [cn (oq 2 (lr a)), cn (oq 2 (lr b))])
 unfold rsq c9; dsimp only
 generalize ve (ib (rof a) 2) (ib (rof b) 2) = S at *
 generalize jc (b7 (rof a) (rof b)) (b7 (rof a) (rof b)) = T at *
 generalize ib (rof a) 2 = P1 at *
 generalize ib (rof b) 2 = P2 at *
 generalize b7 (rof a) (rof b) = M at *
 obtain ⟨_, _⟩ := P1
 obtain ⟨_, _⟩ := P2
 obtain ⟨_, _⟩ := M
 obtain ⟨_, _⟩ := S
 obtain ⟨_, _⟩ := T
 refine an af Tryz.func135 ?_
 repeat' ((conv => whnf); first | refine aa.mk _ _ (g1) ?_ | refine aa.mk _ _ (g2) ?_ | refine aa.mk _ _ (s) ?_ | refine aa.mk _ _ (m) ?_ | refine aa.mk _ _ (t) ?_ | refine rgE ?_ | refine Cd.mk rfl ?_ | (refine TkE.fL ?_; (conv => whnf); fail_if_success (show ae _ _)) | refine Res.mk ?_ | ((with_reducible refine EqE.idS ?_); (refine EqE.fP ?_; (conv => whnf); fail_if_success (show ae _ _))) | refine Cd.ol ?_)
 rfl
theorem aot {x : D} {z : Rq} {r : Cq} (hx : RcR x z.1 z.2) (hz : Hr 20400 z) (h : m5 (c9 z) = r) : Sim Tryz.prog G0 false 221 [x] (cxD r) := by
 subst h
 obtain ⟨a, b⟩ := z
 obtain ⟨h1, h2⟩ := hx
 have g1 := px h1 (hz.1.mono (by decide)) rfl
 have g2 := px h2 (hz.2.mono (by decide)) rfl
 have k1 : Hc 40801 (ib (rof a) 2) := hz.1.rof.ib 2 ac3 (by decide)
 have k2 : Hc 40801 (ib (rof b) 2) := hz.2.rof.ib 2 ac3 (by decide)
 have s := xr (r := jc (ib (rof a) 2) (ib (rof b) 2)) (.of (k1.mono (by decide))) (.of (k2.mono (by decide))) (k1.mono (by decide)) (k2.mono (by decide)) (by rw [cn (oq 2 (lr a)), cn (oq 2 (lr b))])
 unfold m5 c9; dsimp only
 generalize jc (ib (rof a) 2) (ib (rof b) 2) = S at *
 generalize ib (rof a) 2 = P1 at *
 generalize ib (rof b) 2 = P2 at *
 obtain ⟨_, _⟩ := P1
 obtain ⟨_, _⟩ := P2
 obtain ⟨_, _⟩ := S
 refine an af Tryz.func221 ?_
 repeat' ((conv => whnf); first | refine aa.mk _ _ (g1) ?_ | refine aa.mk _ _ (g2) ?_ | refine aa.mk _ _ (s) ?_ | refine rgE ?_ | refine Cd.mk rfl ?_ | (refine TkE.fL ?_; (conv => whnf); fail_if_success (show ae _ _)) | refine Res.mk ?_ | ((with_reducible refine EqE.idS ?_); (refine EqE.fP ?_; (conv => whnf); fail_if_success (show ae _ _))) | refine Cd.ol ?_)
 rfl
theorem acq {x y : D} {z w r : Cq} {c : Int} (p : Int) (hx : CxR x z) (hy : CxR y w) (hz : Hc 20400 z) (hw : Hc 41000 w) (h : nf (rof z) (rof w) p = (r, c)) : Sim Tryz.prog G0 false 130 [x, y, .int .i64 p] (.tup [cxD r, .int .i64 c]) := by
 unfold nf at h
 by_cases c0 : j5 (rof w) 0
 ·rw [if_pos c0] at h; cases h
  have i := al2 (r := (0, 0)) (c := 11) p hy (hw.mono (by decide)) (by unfold ap0; rw [if_pos c0])
  obtain ⟨_, _⟩ := hx
  obtain ⟨_, _⟩ := hy
  refine an af Tryz.func130 ?_
  repeat' ((conv => whnf); first | with_reducible refine ah.data ?_ | refine aa.mk _ _ (i) ?_ | refine rgE ?_ | refine Cd.mk rfl ?_ | refine Br.t ?_ | refine ai.mk _ rfl ?_ | (refine TkE.fL ?_; (conv => whnf); fail_if_success (show ae _ _)) | refine Res.mk ?_ | ((with_reducible refine EqE.idS ?_); (refine EqE.fP ?_; (conv => whnf); fail_if_success (show ae _ _))) | refine Cd.ol ?_)
  show _ = D.tup [D.agg [.bool false, sl [], .int .i64 0, .bool false, sl [], .int .i64 0], _]
  rw [wu]; rfl
 ·rw [if_neg c0] at h; cases h
  have ho := lr w
  have i := al2 (r := oy (rof w) p) (c := 0) p hy (hw.mono (by decide)) (by unfold ap0; rw [if_neg c0])
  have hi : Hc 49004 (oy (rof w) p) := (hw.rof.oy (K := 4000) (by omega)).mono (by decide)
  have m := qt hx (.of (hi.mono (by decide))) (hz.mono (by decide)) (hi.mono (by decide)) rfl
  rw [qm]
  have hm : Hc 69404 (b7 z (oy (rof w) p)) := hz.b7 hi (by decide)
  have ro := jd z (oy (rof w) p)
  generalize b7 z (oy (rof w) p) = M at *
  have d := z5 p (.of (hm.mono (by decide))) (hm.mono (by decide)) rfl
  rw [cn ro] at d
  generalize oy (rof w) p = I at *
  obtain ⟨_, _⟩ := I
  obtain ⟨_, _⟩ := M
  obtain ⟨_, _⟩ := hx
  obtain ⟨_, _⟩ := hy
  refine an af Tryz.func130 ?_
  repeat' ((conv => whnf); first | with_reducible refine ah.data ?_ | refine aa.mk _ _ (i) ?_ | refine aa.mk _ _ (m) ?_ | refine aa.mk _ _ (d) ?_ | refine rgE ?_ | refine Cd.mk rfl ?_ | refine Br.f ?_ | refine ai.mk _ rfl ?_ | (refine TkE.fL ?_; (conv => whnf); fail_if_success (show ae _ _)) | refine Res.mk ?_ | ((with_reducible refine EqE.idS ?_); (refine EqE.fP ?_; (conv => whnf); fail_if_success (show ae _ _))) | refine Cd.ol ?_)
  rfl
theorem asr {x : D} {z r : Rq} {c : Int} (p : Int) (hx : RcR x z.1 z.2) (hz : Hr 20400 z) (h : v9 (c9 z) p = (r, c)) : Sim Tryz.prog G0 false 198 [x, .int .i64 p] (.tup [rqD r, .int .i64 c]) := by
 have s := aot hx (hz.mono (by decide)) rfl
 have hN : Hc 40802 (m5 (c9 z)) := hz.c9.m5 (by decide)
 have oN := asj (al6 z)
 unfold v9 at h
 generalize m5 (c9 z) = N at *
 obtain ⟨a, b⟩ := z
 obtain ⟨h1, h2⟩ := hx
 have kN := CxR.of (hN.mono (show 40802 ≤ 1048576 by decide))
 have eN := cn oN
 by_cases c0 : j5 N 0
 ·rw [if_pos c0] at h; cases h
  have d := acq (r := (0, 0)) (c := 11) p h1 kN (hz.1.mono (by decide)) (hN.mono (by decide)) (by rw [eN]; unfold nf; rw [if_pos c0])
  obtain ⟨_, _⟩ := N
  refine an af Tryz.func198 ?_
  repeat' ((conv => whnf); first | with_reducible refine ah.data ?_ | refine aa.mk _ _ (s) ?_ | refine aa.mk _ _ (d) ?_ | refine rgE ?_ | refine Cd.mk rfl ?_ | refine Br.t ?_ | refine ai.mk _ rfl ?_ | (refine TkE.fL ?_; (conv => whnf); fail_if_success (show ae _ _)) | refine Res.mk ?_ | ((with_reducible refine EqE.idS ?_); (refine EqE.fP ?_; (conv => whnf); fail_if_success (show ae _ _))) | refine Cd.ol ?_)
  show _ = D.tup [D.agg [.bool false, sl [], .int .i64 0, .bool false, sl [], .int .i64 0, .bool false, sl [], .int .i64 0, .bool false, sl [], .int .i64 0], _]
  rw [amc]; rfl
 ·rw [if_neg c0] at h; cases h
  have d := acq (r := (nf (rof a) N p).1) (c := 0) p h1 kN (hz.1.mono (by decide)) (hN.mono (by decide)) (by rw [eN]; unfold nf; rw [if_neg c0])
  have g := age h2 (hz.2.mono (by decide)) rfl
  have hg : Hc 20400 (oz (rof b)) := hz.2.rof.oz
  have d2 := acq (r := (nf (oz (rof b)) N p).1) (c := 0) p (.of (hg.mono (by decide))) kN (hg.mono (by decide)) (hN.mono (by decide)) (by rw [eN, cn (afn (lr b))]; unfold nf; rw [if_neg c0])
  unfold c9; dsimp only
  generalize (nf (rof a) N p).1 = R1 at *
  generalize (nf (oz (rof b)) N p).1 = R2 at *
  generalize oz (rof b) = B at *
  obtain ⟨_, _⟩ := N
  obtain ⟨_, _⟩ := R1
  obtain ⟨_, _⟩ := R2
  obtain ⟨_, _⟩ := B
  refine an af Tryz.func198 ?_
  repeat' ((conv => whnf); first | with_reducible refine ah.data ?_ | refine aa.mk _ _ (s) ?_ | refine aa.mk _ _ (d) ?_ | refine aa.mk _ _ (g) ?_ | refine aa.mk _ _ (d2) ?_ | refine rgE ?_ | refine Cd.mk rfl ?_ | refine Br.f ?_ | refine ai.mk _ rfl ?_ | (refine TkE.fL ?_; (conv => whnf); fail_if_success (show ae _ _)) | refine Res.mk ?_ | ((with_reducible refine EqE.idS ?_); (refine EqE.fP ?_; (conv => whnf); fail_if_success (show ae _ _))) | refine Cd.ol ?_)
  rfl
theorem asp {x y : D} {z w r : Rq} {c : Int} (p : Int) (hx : RcR x z.1 z.2) (hy : RcR y w.1 w.2) (hz : Hr 20400 z) (hw : Hr 20400 w) (h : fq (c9 z) (c9 w) p = (r, c)) : Sim Tryz.prog G0 false 161 [x, y, .int .i64 p] (.tup [rqD r, .int .i64 c]) := by
 obtain ⟨⟨I, i⟩, hI⟩ : ∃ I, v9 (c9 w) p = I := ⟨_, rfl⟩
 have s := asr p hy hw hI
 have hIt : Hr 77208 I := by
  have k := hw.c9.v9 (p := p) (K := 4000) (by omega)
  rw [hI] at k; exact k.mono (by decide)
 have hc := azv (c9 w) p
 unfold fq at h
 rw [hI] at h hc
 dsimp only at h hc
 by_cases c0 : j5 (m5 (c9 w)) 0
 ·rw [if_pos c0] at h hc; cases h
  subst hc
  obtain ⟨⟨_, _⟩, ⟨_, _⟩⟩ := I
  obtain ⟨a, b⟩ := z
  obtain ⟨a', b'⟩ := w
  obtain ⟨_, _⟩ := hx
  obtain ⟨_, _⟩ := hy
  refine an af Tryz.func161 ?_
  repeat' ((conv => whnf); first | with_reducible refine ah.data ?_ | refine aa.mk _ _ (s) ?_ | refine rgE ?_ | refine Cd.mk rfl ?_ | refine Br.t ?_ | refine ai.mk _ rfl ?_ | (refine TkE.fL ?_; (conv => whnf); fail_if_success (show ae _ _)) | refine Res.mk ?_ | ((with_reducible refine EqE.idS ?_); (refine EqE.fP ?_; (conv => whnf); fail_if_success (show ae _ _))) | refine Cd.ol ?_)
  show _ = D.tup [D.agg [.bool false, sl [], .int .i64 0, .bool false, sl [], .int .i64 0, .bool false, sl [], .int .i64 0, .bool false, sl [], .int .i64 0], _]
  rw [amc]; rfl
 ·rw [if_neg c0] at h hc; cases h
  subst hc
  have m := agi hx (RqR.of (hIt.mono (by decide))) (hz.mono (by decide)) (hIt.mono (by decide)) rfl
  rw [aom]
  have hM : Hr 97609 (ij z I) := hz.ij hIt (by decide)
  have oM := qu z I
  generalize ij z I = M at *
  have d := z7 p (RqR.of (hM.mono (by decide))) (hM.mono (by decide)) rfl
  rw [ji oM] at d
  obtain ⟨⟨_, _⟩, ⟨_, _⟩⟩ := I
  obtain ⟨⟨_, _⟩, ⟨_, _⟩⟩ := M
  obtain ⟨a, b⟩ := z
  obtain ⟨a', b'⟩ := w
  obtain ⟨_, _⟩ := hx
  obtain ⟨_, _⟩ := hy
  refine an af Tryz.func161 ?_
  repeat' ((conv => whnf); first | with_reducible refine ah.data ?_ | refine aa.mk _ _ (s) ?_ | refine aa.mk _ _ (m) ?_ | refine aa.mk _ _ (d) ?_ | refine rgE ?_ | refine Cd.mk rfl ?_ | refine Br.f ?_ | refine ai.mk _ rfl ?_ | (refine TkE.fL ?_; (conv => whnf); fail_if_success (show ae _ _)) | refine Res.mk ?_ | ((with_reducible refine EqE.idS ?_); (refine EqE.fP ?_; (conv => whnf); fail_if_success (show ae _ _))) | refine Cd.ol ?_)
  rfl
end Go.Ev.Ar

namespace Go.Ev.Ar
open Go Go.Ev Go.Proofs
def dOk (p : Dyadic) : Bool := fy (a7 (aj p)) (ofN (aj p).natAbs) (ar p)
def okR (z : Rq) : Bool := dOk z.1.1 && dOk z.1.2 && dOk z.2.1 && dOk z.2.2
theorem api {p : Dyadic} (hp : Ht 1000000 p) : Sim Tryz.prog G0 true 158 [dyD p] (.bool (dOk p)) :=
 ad4 _ _ _ (Nat.lt_of_le_of_lt (hp.parts.1.len (k := 65536) (by decide)) (by decide))
set_option maxHeartbeats 1000000 in
theorem aj5 {z : Rq} {t : Bool} (hz : Hr 1000000 z) (ht : okR z = t) : Sim Tryz.prog G0 true 104 [rqD z] (.bool t) := by
 have d1 := api hz.1.1
 have d2 := api hz.1.2
 have d3 := api hz.2.1
 have d4 := api hz.2.2
 subst ht
 unfold okR
 generalize dOk z.1.1 = t1 at *
 generalize dOk z.1.2 = t2 at *
 generalize dOk z.2.1 = t3 at *
 generalize dOk z.2.2 = t4 at *
 obtain ⟨⟨_, _⟩, ⟨_, _⟩⟩ := z
 refine an af Tryz.func104 ?_
 repeat' ((conv => whnf); first | with_reducible refine ah.data ?_ | refine aa.mk _ _ (d1) ?_ | refine aa.mk _ _ (d2) ?_ | refine aa.mk _ _ (d3) ?_ | refine aa.mk _ _ (d4) ?_ | refine rgE ?_ | refine Cd.mk rfl ?_ | refine Br.t ?_ | refine Br.f ?_ | refine Br.mk (fun _ => ?_) (fun _ => ?_) | (refine TkE.fL ?_; (conv => whnf); fail_if_success (show ae _ _)) | refine Res.mk ?_)
 all_goals
  show D.bool _ = D.bool _
  refine congrArg D.bool ?_
  clear d1 d2 d3 d4 hz
  grind
end Go.Ev.Ar

namespace Go.Ev.Ar
open Go Go.Ev Go.Proofs
theorem ahu : (1 : Dyadic).toRat = 1 := by rfl
theorem apn (j : Nat) : (dof (j : Int) 0).toRat = ((j : Nat) : Rat) := by
 rw [l6, Rat.zpow_zero, Rat.mul_one]; rfl
theorem awc {z : Cq} {r : Rat} (h : lh z r) : lh (r8 z) (qab r) := by
 have ab : ∀ p : Dyadic, (ej p).toRat = qab p.toRat := fun p => by
  rw [ix]; unfold qab
  by_cases g : p < 0
  ·rw [if_pos g, adi, if_pos (by have := (Dyadic.toRat_lt_toRat_iff (x := p) (y := 0)).2 g; rwa [eo] at this)]
  ·rw [if_neg g, if_neg (fun k => g (by rw [← eo] at k; exact Dyadic.toRat_lt_toRat_iff.1 k))]
 obtain ⟨h1, h2⟩ := h
 unfold r8
 split
 ·rename_i g
  have g1 := ka.2 g.1
  have g2 := ka.2 g.2
  refine ⟨?_, ?_⟩
  ·show (0 : Dyadic).toRat ≤ _; rw [eo]; exact aof r
  ·show _ ≤ (mx (ej z.1) (ej z.2)).toRat
   rw [av8, ab, ab]; unfold qab qmx; grind
 ·rename_i g
  refine ⟨?_, ?_⟩
  ·show (mn (ej z.1) (ej z.2)).toRat ≤ _
   have g : ¬ (z.1.toRat ≤ 0 ∧ 0 ≤ z.2.toRat) := fun k => g ⟨by rw [← eo] at k; exact ka.1 k.1, by rw [← eo] at k; exact ka.1 k.2⟩
   rw [azq, ab, ab]; unfold qab qmn; grind
  ·show _ ≤ (mx (ej z.1) (ej z.2)).toRat
   rw [av8, ab, ab]; unfold qab qmx; grind
theorem au1 (z : Cq) : ib z 2 = ((r8 z).1 * (r8 z).1, (r8 z).2 * (r8 z).2) := by
 unfold ib
 rw [show kq 2 = 2 by decide, if_pos (by decide)]
 have e : ∀ p : Dyadic, p ^ 2 = p * p := fun p => by grind
 rw [e, e]
theorem aed {z : Cq} {r : Rat} (h : lh z r) : lh (ib z 2) (r * r) := by
 rw [au1]
 have k := awc h
 have k0 : 0 ≤ (r8 z).1.toRat := by rw [← eo]; exact ka.2 (apy (als h))
 obtain ⟨k1, k2⟩ := k
 have hs : r * r = qab r * qab r := by unfold qab; split <;> grind
 have a := aqp k0 k1 k0 k1
 have b := aqp (aof r) k2 (aof r) k2
 rw [hs]
 refine ⟨?_, ?_⟩ <;> dsimp only <;> rw [kb] <;> assumption
def fp (z : Rq) (c : Cr) : Prop := lh z.1 c.re ∧ lh z.2 c.im
theorem ar9 {z w : Rq} {a b : Cr} (h : fp z a) (k : fp w b) : fp (abh z w) (a + b) := ⟨tw h.1 k.1, tw h.2 k.2⟩
theorem acn {z w : Rq} {a b : Cr} (h : fp z a) (k : fp w b) : fp (ij z w) (a * b) := ⟨abf (qs h.1 k.1) (qs h.2 k.2), by
 have := tw (qs h.1 k.2) (qs h.2 k.1)
 exact this⟩
theorem awb {z : Rq} {a : Cr} (h : fp z a) : fp (rsq z) (a * a) := ⟨abf (aed h.1) (aed h.2), by
 have := tw (qs h.1 h.2) (qs h.1 h.2)
 rw [Cr.iy, show a.re * a.im + a.im * a.re = a.re * a.im + a.re * a.im by grind]; exact this⟩
theorem kd {z : Rq} {a : Cr} (p : Int) (h : fp z a) : fp (ba z p) a := ⟨ajp h.1 (yg _ _), ajp h.2 (yg _ _)⟩
def a2r (z : Cq) (j : Nat) (wp : Int) : Cq := kr (b7 z (oy (dof j 0, dof j 0) wp)) wp
theorem aub {j : Nat} (hj : 0 < j) : (0 : Dyadic) < dof j 0 := pc.2 (by omega)
def unR : Rq := ((1, 1), (0, 0))
def hst (y out : Rq) (wp : Int) (j : Nat) : Rq := abh unR (a2r (ij y out).1 j wp, a2r (ij y out).2 j wp)
def hrn (y : Rq) (wp : Int) : Nat → Rq → Rq
 | 0, out => out
 | j + 1, out => hrn y wp j (hst y out wp (j + 1))
def ax1 (o : Rq) (im : Bool) (r : Dyadic) : Rq := (jc o.1 (-r, r), if im then jc o.2 (-r, r) else o.2)
def sqn (wp : Int) : Nat → Rq → Rq
 | 0, z => z
 | k + 1, z => ba (rsq (sqn wp k z)) wp
def a3c (wp : Int) : Nat := (wp / 10 + 2).toNat
def a3o (wp : Int) : Dyadic := dof 1 (1 - 10 * ((a3c wp : Int) + 1))
def a3n (y : Rq) (im : Bool) (wp : Int) : Rq := ax1 (hrn y wp (a3c wp) unR) im (a3o wp)
def trn (y : Rq) (im : Bool) (wp : Int) : Rq := sqn wp 16 (a3n y im wp)
end Go.Ev.Ar

namespace Go.Ev.Ar
open Go Go.Ev Go.Proofs
structure Bx (z : Cq) (m w : Rat) : Prop where
 lo : -m ≤ z.1.toRat
 hi : z.2.toRat ≤ m
 ord : z.1.toRat ≤ z.2.toRat
 wd : z.2.toRat - z.1.toRat ≤ w
theorem Bx.mono {z : Cq} {m w k v : Rat} (h : Bx z m w) (h1 : m ≤ k) (h2 : w ≤ v) : Bx z k v := by
 obtain ⟨a, b, c, d⟩ := h
 exact ⟨by grind, by grind, c, by grind⟩
theorem Bx.add {z w : Cq} {m k a b : Rat} (h : Bx z m a) (g : Bx w k b) : Bx (jc z w) (m + k) (a + b) := by
 obtain ⟨h1, h2, h3, h4⟩ := h
 obtain ⟨g1, g2, g3, g4⟩ := g
 refine ⟨?_, ?_, ?_, ?_⟩ <;> unfold jc <;> dsimp only <;> (try rw [tq]) <;> (try rw [tq]) <;> grind
def ep (p : Int) : Rat := (dof 1 (1 - min (max p 1) 4000)).toRat
theorem a06 (p : Int) : 0 < ep p := by
 have := sk (1 - min (max p 1) 4000)
 unfold ep; rw [← eo]; exact Dyadic.toRat_lt_toRat_iff.2 this
theorem a2s (p : Int) : ep p ≤ 1 := by
 unfold ep
 rw [← ahu, show (1 : Dyadic) = dof 1 0 by decide]
 exact ka.2 (apl.2 (by omega))
theorem a27 (p q : Dyadic) : (p - q).toRat = p.toRat - q.toRat := by rw [show p - q = p + -q by grind, tq, adi]; grind
theorem Bx.pt {q : Dyadic} {m : Rat} (h : qab q.toRat ≤ m) : Bx (q, q) m 0 := by
 have := aog.1 h
 exact ⟨this.1, this.2, Rat.le_refl, by dsimp only; grind⟩
theorem Bx.inv {j : Nat} (p : Int) (hj : 0 < j) : Bx (oy (dof j 0, dof j 0) p) 2 (ep p) := by
 have hp := aub hj
 have one0 : (1 : Dyadic) ≠ 0 := by decide
 have q0 : lg 1 (dof j 0) p 0 = po 1 (dof j 0) p 0 := tu p 0 one0 hp
 have q1 : lg 1 (dof j 0) p 1 = po 1 (dof j 0) p 1 := tu p 1 one0 hp
 have s0 := (tv (x := 1) (y := dof j 0) p 0 one_pos).1 hp
 have l0 := (aqn (x := 1) (y := dof j 0) p).1 hp
 have hd : po 1 (dof j 0) p 0 ≤ po 1 (dof j 0) p 1 ∧ po 1 (dof j 0) p 1 - po 1 (dof j 0) p 0 ≤ dof 1 (ig 1 (dof j 0) p) := by
  have := sk (ig 1 (dof j 0) p)
  unfold po
  rw [if_neg (fun h => absurd h.1 (by decide))]
  split
  ·rw [wy]; grind
  ·grind
 have ht := (ahz (x := 1) (y := dof j 0) one0 (by grind)).1
 rw [show ej (1 : Dyadic) = 1 by decide, show ej (dof (j : Int) 0) = dof j 0 by rw [ix, if_neg (by grind)]] at ht
 have ht := ka.2 ht
 rw [kb, apn, ahu] at ht
 have j1 : (1 : Rat) ≤ ((j : Nat) : Rat) := by exact_mod_cast hj
 have t0 : 0 ≤ (dof 1 (we 1 (dof j 0))).toRat := by rw [← eo]; exact ka.2 (by have := sk (we 1 (dof j 0)); grind)
 have t1 := Rat.mul_le_mul_of_nonneg_right j1 t0
 have e : dof 1 (ig 1 (dof j 0) p) = dof 1 (we 1 (dof j 0)) * dof 1 (1 - min (max p 1) 4000) := by rw [ae6]; congr 1; unfold ig; omega
 have u : (dof 1 (ig 1 (dof j 0) p)).toRat ≤ ep p := by
  rw [e, kb]
  have := Rat.mul_le_mul_of_nonneg_right (show (dof 1 (we 1 (dof j 0))).toRat ≤ 1 by grind) (Rat.le_of_lt (a06 p))
  show _ * ep p ≤ ep p
  grind
 have l1 := ka.2 l0
 rw [kb, apn, ahu] at l1
 have z0 : 0 ≤ (lg 1 (dof j 0) p 0).toRat := by rw [← eo]; exact ka.2 (by grind)
 have l2 := Rat.mul_le_mul_of_nonneg_right j1 z0
 have d1 := ka.2 hd.1
 have d2 := ka.2 hd.2
 rw [a27] at d2
 have el := a2s p
 rw [← q0, ← q1] at d1 d2
 have e1 : (oy (dof j 0, dof j 0) p).1 = lg 1 (dof j 0) p 0 := rfl
 have e2 : (oy (dof j 0, dof j 0) p).2 = lg 1 (dof j 0) p 1 := rfl
 exact ⟨by rw [e1]; grind, by rw [e2]; grind, by rw [e1, e2]; grind, by rw [e1, e2]; grind⟩
end Go.Ev.Ar

namespace Go.Ev.Ar
open Go Go.Ev Go.Proofs
theorem a2h : Bx unR.1 2 0 ∧ Bx unR.2 2 0 := ⟨Bx.pt (by rw [ahu, awa (by decide)]; grind), Bx.pt (by rw [eo, alp]; grind)⟩
theorem a0e (m w : Rat) (hm : 0 ≤ m) (hw : 0 ≤ w) : Bx ((0, 0) : Cq) m w := (Bx.pt (m := 0) (by rw [eo, alp]; grind)).mono hm hw
def yR (x : Dyadic) (im : Bool) (wp : Int) : Rq := if im then ((0, 0), kr (x, x) wp) else (kr (x, x) wp, (0, 0))
end Go.Ev.Ar

namespace Go.Ev.Ar
open Go Go.Ev Go.Proofs
def Nz (m : Nat) (q : Dyadic) : Prop := q.toRat = 0 ∨ pq (1 / 2) m ≤ qab q.toRat
theorem arw {m n : Nat} (h : m ≤ n) : pq (1 / 2) n ≤ pq (1 / 2) m := by
 obtain ⟨d, rfl⟩ : ∃ d, n = m + d := ⟨n - m, by omega⟩
 rw [av6]
 have p0 := aqi (show (0 : Rat) ≤ 1 / 2 by grind) m
 have p1 : pq (1 / 2) d ≤ 1 := by
  have := apx d
  have hk : (0 : Rat) ≤ ((d : Nat) : Rat) := by exact_mod_cast Nat.zero_le d
  have := abg hk (aqi (show (0 : Rat) ≤ 1 / 2 by grind) d)
  grind
 have := Rat.mul_le_mul_of_nonneg_left p1 p0
 grind
theorem Nz.mono {m n : Nat} {q : Dyadic} (h : Nz m q) (k : m ≤ n) : Nz n q := by
 rcases h with h | h
 ·exact .inl h
 ·exact .inr (Rat.le_trans (arw k) h)
def Nz2 (m : Nat) (z : Cq) : Prop := Nz m z.1 ∧ Nz m z.2
theorem Nz2.mono {m n : Nat} {z : Cq} (h : Nz2 m z) (k : m ≤ n) : Nz2 n z := ⟨h.1.mono k, h.2.mono k⟩
theorem Bx.qab {z : Cq} {m w : Rat} (h : Bx z m w) : Ev.qab z.1.toRat ≤ m ∧ Ev.qab z.2.toRat ≤ m := by
 obtain ⟨a, b, c, d⟩ := h
 exact ⟨aog.2 ⟨by grind, by grind⟩, aog.2 ⟨by grind, by grind⟩⟩
end Go.Ev.Ar

namespace Go.Ev.Ar
open Go Go.Ev Go.Proofs
structure Hz (im : Bool) (out : Rq) (w : Rat) : Prop where
 c1 : 31 / 32 ≤ out.1.1.toRat
 c2 : out.1.2.toRat ≤ 33 / 32
 b1 : Bx out.1 2 w
 b2 : Bx out.2 (1 / 32) w
 h1 : Hc 2400 out.1
 n2 : Nz2 1030 out.2
 h2 : Hc 1400 out.2
 z2 : im = false → out.2 = (0, 0)
theorem Hz.one (im : Bool) {w : Rat} (hw : 0 ≤ w) : Hz im unR w := ⟨by show _ ≤ (1 : Dyadic).toRat; rw [ahu]; grind, by show (1 : Dyadic).toRat ≤ _; rw [ahu]; grind, a2h.1.mono Rat.le_refl hw, a0e _ _ (by grind) hw, ⟨Ht.one.mono (by decide), Ht.one.mono (by decide)⟩, ⟨.inl eo, .inl eo⟩, ⟨.zero _, .zero _⟩, fun _ => rfl⟩
end Go.Ev.Ar

namespace Go.Ev.Ar
open Go Go.Ev Go.Proofs
inductive DyS : D → Dyadic → Prop where
 | mk {b : Bool} {l : List UInt32} {e : Int} (hl : l.length ≤ 1000) (h1 : -20000 ≤ e) (h2 : e ≤ 20000) (hr : DyR (.agg [.bool b, sl l, .int .i64 e]) (dof (zv b l) e)) : DyS (.agg [.bool b, sl l, .int .i64 e]) (dof (zv b l) e)
theorem DyS.r {x : D} {q : Dyadic} (h : DyS x q) : DyR x q := by obtain ⟨_, _, _, hr⟩ := h; exact hr
def axa (q : Dyadic) : Bool := decide (-1000 ≤ ar q) && decide (ej q ≤ dof 64 0)
end Go.Ev.Ar

namespace Go.Ev.Ar
open Go Go.Ev Go.Proofs
inductive CxS : D → Cq → Prop where
 | mk {b : Bool} {l : List UInt32} {e : Int} {c : Bool} {k : List UInt32} {f : Int} {p q : Dyadic} (hp : DyS (.agg [.bool b, sl l, .int .i64 e]) p) (hq : DyS (.agg [.bool c, sl k, .int .i64 f]) q) :
  CxS (.agg [.bool b, sl l, .int .i64 e, .bool c, sl k, .int .i64 f]) (p, q)
theorem CxS.r {x : D} {z : Cq} (h : CxS x z) : CxR x z := by obtain ⟨a, b⟩ := h; exact .mk a.r b.r
def trR (q : Dyadic) (P : Int) : Rq := trn (yR (q * dof 1 (-16)) false P) false P
def ani (z : Cq) (p : Int) : Cq := kr ((trR z.1 (min (max p 2) 200 + 80)).1.1, (trR z.2 (min (max p 2) 200 + 80)).1.2) (min (max p 2) 200 + 10)
attribute [irreducible] trR
end Go.Ev.Ar

namespace Go.Ev.Ar
open Go Go.Ev Go.Proofs
def a0t (y : Cq) (r : Dyadic) (p : Int) : Cq := kr (a2y (jc y (-r, r)) (-1, 1)).1 p
end Go.Ev.Ar

namespace Go.Ev.Ar
open Go Go.Ev Go.Proofs
def ay2 (z : Cq) (P : Int) : Dyadic := rto ((z.1 + z.2) * dof 1 (-1)) P 2
def a28 (z : Cq) (P : Int) : Dyadic := mx (z.2 - ay2 z P) (ay2 z P - z.1)
end Go.Ev.Ar

namespace Go.Ev.Ar
open Go Go.Ev Go.Proofs
def trI (q : Dyadic) (P : Int) : Rq := trn (yR (q * dof 1 (-16)) true P) true P
attribute [irreducible] trI
def ae1 (z : Cq) (p : Int) : Rq :=
  (a0t (trI (ay2 z (min (max p 2) 200 + 80)) (min (max p 2) 200 + 80)).1 (a28 z (min (max p 2) 200 + 80)) (min (max p 2) 200 + 10),
   a0t (trI (ay2 z (min (max p 2) 200 + 80)) (min (max p 2) 200 + 80)).2 (a28 z (min (max p 2) 200 + 80)) (min (max p 2) 200 + 10))
end Go.Ev.Ar

namespace Go.Ev.Ar
open Go Go.Ev Go.Proofs
theorem DyS.of {q : Dyadic} (h : Ht 10000 q) : DyS (dyD q) q := by
 obtain ⟨h1, h2, h3⟩ := h.parts
 have r := DyR.of (h.mono (b := 1048576) (by decide))
 have e : dof (zv (a7 (aj q)) (ofN (aj q).natAbs)) (ar q) = q := by rw [p5, br]
 have k : DyS (.agg [.bool (a7 (aj q)), sl (ofN (aj q).natAbs), .int .i64 (ar q)]) (dof (zv (a7 (aj q)) (ofN (aj q).natAbs)) (ar q)) :=
  .mk (h1.len (by decide)) (by omega) (by omega) (by rw [e]; exact r)
 rw [e] at k; exact k
theorem CxS.of {z : Cq} (h : Hc 10000 z) : CxS (cxD z) z := .mk (DyS.of h.1) (DyS.of h.2)
def a23 (z : Cq) : Bool := axa z.1 && axa z.2
attribute [local irreducible] ani ae1
def a2o (z : Rq) (p : Int) : Rq := (b7 (ani (rof z.1) p) (ae1 (rof z.2) p).1, b7 (ani (rof z.1) p) (ae1 (rof z.2) p).2)
def aut (z : Cq) (p : Int) : Rq := (b7 (dof 1 (-1), dof 1 (-1)) (jc (ani z p) (ani (oz z) p)), b7 (dof 1 (-1), dof 1 (-1)) (ve (ani z p) (ani (oz z) p)))
attribute [irreducible] aut
def a2q (z : Rq) (p : Int) : Rq := (b7 (ae1 (rof z.1) p).2 (aut (rof z.2) p).1, b7 (ae1 (rof z.1) p).1 (aut (rof z.2) p).2)
def a2n (z : Rq) (p : Int) : Rq := (b7 (ae1 (rof z.1) p).1 (aut (rof z.2) p).1, oz (b7 (ae1 (rof z.1) p).2 (aut (rof z.2) p).2))
end Go.Ev.Ar

namespace Go.Ev.Ar
open Go Go.Ev Go.Proofs
theorem azp {p q : Dyadic} : p.toRat < q.toRat ↔ p < q :=
 ⟨fun h => Classical.byContradiction fun g => Rat.not_le.2 h (ka.2 (by grind)), fun h => Rat.not_le.1 fun g => absurd (ka.1 g) (by grind)⟩
theorem av9 {p : Dyadic} : 0 < p.toRat ↔ 0 < p := by rw [← azp, eo]
theorem av7 {p : Dyadic} : p.toRat < 0 ↔ p < 0 := by rw [← azp, eo]
theorem q_1 : (1 : Dyadic).toRat = 1 := by decide
theorem vt {b p q : Rat} (hb : 0 < b) (h : b * p ≤ b * q) : p ≤ q := by
 rcases Classical.em (p ≤ q) with g | g
 ·exact g
 ·have := Rat.mul_pos hb (show 0 < p - q by grind)
  grind
theorem awd {z : Cq} {b d : Rat} (p : Int) (hb : lh z b) (h : ¬ j5 z 0) (hd : b * d = 1) : lh (oy z p) d := by
 have ho := als hb
 obtain ⟨h1, h2⟩ := hb
 have s := ahf p ho h
 have l := aqn (x := 1) (y := z.2) p
 have u := azr (x := 1) (y := z.1) p
 have e1 : lg 1 z.2 p 0 = (oy z p).1 := rfl
 have e2 : lg 1 z.1 p 1 = (oy z p).2 := rfl
 rw [e1] at l
 rw [e2] at u
 unfold lh
 generalize (oy z p).1 = q at *
 generalize (oy z p).2 = r at *
 rcases s with ⟨s1, s2, s3, s4⟩ | ⟨s1, s2, s3, s4⟩
 ·have l1 := ka.2 (l.1 s2)
  have u1 := ka.2 (u.1 s1)
  rw [kb, q_1] at l1 u1
  have p1 := av9.2 s1
  have p3 := av9.2 s3
  have p4 := av9.2 s4
  have hb0 : 0 < b := by grind
  have m1 := Rat.mul_le_mul_of_nonneg_right h2 (show 0 ≤ q.toRat by grind)
  have m2 := Rat.mul_le_mul_of_nonneg_right h1 (show 0 ≤ r.toRat by grind)
  exact ⟨vt hb0 (by grind), vt hb0 (by grind)⟩
 ·have l1 := ka.2 (l.2 s2)
  have u1 := ka.2 (u.2 s1)
  rw [kb, q_1] at l1 u1
  have p2 := av7.2 s2
  have p3 := av7.2 s3
  have p4 := av7.2 s4
  have hb0 : 0 < -b := by grind
  have m1 := Rat.mul_le_mul_of_nonneg_right h2 (show 0 ≤ -q.toRat by grind)
  have m2 := Rat.mul_le_mul_of_nonneg_right h1 (show 0 ≤ -r.toRat by grind)
  exact ⟨vt hb0 (by grind), vt hb0 (by grind)⟩
theorem alq {z w : Cq} {a b d : Rat} (p : Int) (ha : lh z a) (hb : lh w b) (h : ¬ j5 w 0) (hd : b * d = 1) : lh (nf z w p).1 (a * d) := by
 unfold nf; rw [if_neg h]
 exact ajp (qs ha (awd p hb h hd)) (yg _ p)
theorem ahx {w : Rq} {b : Cr} (h : fp w b) : lh (m5 w) (b.re * b.re + b.im * b.im) := tw (aed h.1) (aed h.2)
theorem asa {z : Cq} (h : lh z 0) : j5 z 0 := ⟨ka.1 (by rw [eo]; exact h.1), ka.1 (by rw [eo]; exact h.2)⟩
theorem ah1 {z w : Rq} (p : Int) (h : fp w 0) : fq z w p = (((0, 0), (0, 0)), 11) := by
 have n := ahx h
 have n0 : j5 (m5 w) 0 := asa (by rw [Cr.y5, Cr.y4] at n; grind)
 unfold fq; rw [if_pos n0]
theorem acp {z w : Rq} (p : Int) : (fq z w p).2 = 11 ∨ (fq z w p).2 = 0 := by unfold fq; split <;> simp
theorem ahw {z w : Rq} {a b d : Cr} (p : Int) (ha : fp z a) (hb : fp w b) (h : (fq z w p).2 = 0) (hd : b * d = 1) : fp (fq z w p).1 (a * d) := by
 have n := ahx hb
 unfold fq at h ⊢
 by_cases n0 : j5 (m5 w) 0
 ·rw [if_pos n0] at h; exact absurd h (by decide)
 rw [if_neg n0]
 have e1 := congrArg Cr.re hd
 have e2 := congrArg Cr.im hd
 rw [Cr.jo, Cr.ack] at e1
 rw [Cr.iy, Cr.acj] at e2
 have nd : (b.re * b.re + b.im * b.im) * (d.re * d.re + d.im * d.im) = 1 := by
  have : (b.re * b.re + b.im * b.im) * (d.re * d.re + d.im * d.im) = (b.re * d.re - b.im * d.im) * (b.re * d.re - b.im * d.im) + (b.re * d.im + b.im * d.re) * (b.re * d.im + b.im * d.re) := by grind
  rw [this, e1, e2]; grind
 have i1 := alq p hb.1 n n0 nd
 have i2 := alq p (alr hb.2) n n0 nd
 have f1 : b.re * (d.re * d.re + d.im * d.im) = d.re := by grind
 have f2 : -b.im * (d.re * d.re + d.im * d.im) = d.im := by grind
 rw [f1] at i1
 rw [f2] at i2
 refine kd p (acn ha ?_)
 unfold v9; rw [if_neg n0]
 exact ⟨i1, i2⟩
def zR : Rq := ((0, 0), (0, 0))
def vo (x : Rq) (p : Int) : Nat → Option Rq
 | 0 => some (ptR ag)
 | j + 1 => (vo x p j).bind fun r => if okR (ba (ij r x) (p + 20)) then some (ba (ij r x) (p + 20)) else none
def roA (r : Rq × Int) (p : Int) : Rq × Int := if r.2 = 0 then (ba r.1 (p + 20), 0) else (zR, r.2)
def elA (f : Rq → Int → Rq) (z : Rq) (p : Int) : Rq × Int := if a23 z.1 = true ∧ a23 z.2 = true then (f z p, 0) else (zR, 13)
def ca (vs : List Rq) (x : Nd) (X : Rq) (p : Int) : Rq × Int :=
 if x.k = 1 then (X, 0)
 else if x.k = 2 then (ptR x.r.val, 0)
 else if x.k = 3 then (ba (abh (vs.getD x.a.toNat (ag, ag)) (vs.getD x.b.toNat (ag, ag))) (p + 20), 0)
 else if x.k = 4 then (ba (adw (vs.getD x.a.toNat (ag, ag)) (vs.getD x.b.toNat (ag, ag))) (p + 20), 0)
 else if x.k = 5 then (ba (if x.a = x.b then rsq (vs.getD x.a.toNat (ag, ag)) else ij (vs.getD x.a.toNat (ag, ag)) (vs.getD x.b.toNat (ag, ag))) (p + 20), 0)
 else if x.k = 6 then roA (fq (vs.getD x.a.toNat (ag, ag)) (vs.getD x.b.toNat (ag, ag)) (p + 20)) p
 else if x.k = 7 then match vo (vs.getD x.a.toNat (ag, ag)) p x.n.toNat with | some r => (r, 0) | none => (zR, 13)
 else if x.k = 8 then roA (elA a2o (vs.getD x.a.toNat (ag, ag)) p) p
 else if x.k = 9 then roA (elA a2q (vs.getD x.a.toNat (ag, ag)) p) p
 else roA (elA a2n (vs.getD x.a.toNat (ag, ag)) p) p
def fv (vs : List Rq) (x : Nd) (X : Rq) (p : Int) : Except Int Rq := if (ca vs x X p).2 = 0 then (if okR (ca vs x X p).1 then .ok (ca vs x X p).1 else .error 13) else .error (ca vs x X p).2
def atL (xs : List Nd) (X : Rq) (p : Int) : Nat → Except Int (List Rq)
 | 0 => .ok []
 | i + 1 => match atL xs X p i with
  | .error c => .error c
  | .ok vs => match fv vs (xs.getD i Nd.nil) X p with
   | .error c => .error c
   | .ok r => .ok (vs ++ [r])
theorem aew {xs : List Nd} {X : Rq} {p c : Int} : ∀ {i j : Nat}, atL xs X p i = .error c → i ≤ j → atL xs X p j = .error c
 | i, 0, h, hj => by rw [show i = 0 by omega] at h; cases h
 | i, j + 1, h, hj => by
  by_cases e : i = j + 1
  ·rw [← e]; exact h
  ·unfold atL; rw [aew h (by omega)]
theorem al5 {r : Rq × Int} (p : Int) (h : r.2 = 0 ∨ r.2 = 11 ∨ r.2 = 13) : (roA r p).2 = 0 ∨ (roA r p).2 = 11 ∨ (roA r p).2 = 13 := by
 unfold roA; split
 ·exact .inl rfl
 ·exact h
theorem aud {f : Rq → Int → Rq} {z : Rq} {p : Int} : (elA f z p).2 = 0 ∨ (elA f z p).2 = 13 := by unfold elA; split <;> simp
theorem azd (vs : List Rq) (x : Nd) (X : Rq) (p : Int) : (ca vs x X p).2 = 0 ∨ (ca vs x X p).2 = 11 ∨ (ca vs x X p).2 = 13 := by
  unfold ca
  have e : ∀ f : Rq → Int → Rq, (roA (elA f (vs.getD x.a.toNat (ag, ag)) p) p).2 = 0 ∨ (roA (elA f (vs.getD x.a.toNat (ag, ag)) p) p).2 = 11 ∨ (roA (elA f (vs.getD x.a.toNat (ag, ag)) p) p).2 = 13 := fun f => al5 p (by
    rcases aud (f := f) (z := vs.getD x.a.toNat (ag, ag)) (p := p) with h | h
    · exact .inl h
    · exact .inr (.inr h))
  split; · exact .inl rfl
  split; · exact .inl rfl
  split; · exact .inl rfl
  split; · exact .inl rfl
  split; · exact .inl rfl
  split; · exact al5 p (by
    rcases acp (z := vs.getD x.a.toNat (ag, ag)) (w := vs.getD x.b.toNat (ag, ag)) (p + 20) with h | h
    · exact .inr (.inl h)
    · exact .inl h)
  split
  · split
    · exact .inl rfl
    · exact .inr (.inr rfl)
  split; · exact e _
  split; · exact e _
  exact e _
theorem asw {vs : List Rq} {x : Nd} {X : Rq} {p c : Int} (h : fv vs x X p = .error c) : c = 11 ∨ c = 13 := by
 have k := azd vs x X p
 unfold fv at h
 split at h
 ·split at h
  ·cases h
  ·cases h; exact .inr rfl
 ·cases h; omega
theorem akc {xs : List Nd} {X : Rq} {p c : Int} : ∀ {i : Nat}, atL xs X p i = .error c → c = 11 ∨ c = 13
 | 0, h => by cases h
 | i + 1, h => by
  unfold atL at h
  cases e : atL xs X p i with
  | error d => rw [e] at h; cases h; exact akc e
  | ok us =>
   rw [e] at h
   dsimp only at h
   cases g : fv us (xs.getD i Nd.nil) X p with
   | error c => rw [g] at h; cases h; exact asw g
   | ok r => rw [g] at h; cases h
structure Av (zs ps : List Rq) : Prop where
 len : zs.length = ps.length
 v : ∀ j, j < ps.length → ∃ v, Vl (ps.getD j (ag, ag)) v ∧ fp (zs.getD j (ag, ag)) v
theorem Av.add {zs ps : List Rq} {p r : Rq} {v : Cr} (h : Av zs ps) (hp : Vl p v) (hr : fp r v) : Av (zs ++ [r]) (ps ++ [p]) := by
 refine ⟨by simp [h.len], fun j hj => ?_⟩
 rw [List.length_append] at hj
 have : j < ps.length ∨ j = ps.length := by simp at hj; omega
 rcases this with g | rfl
 ·rw [n7 g, n7 (by rw [h.len]; exact g)]; exact h.v j g
 ·have e : (zs ++ [r]).getD ps.length (ag, ag) = r := by rw [← h.len, gj]
  rw [gj, e]; exact ⟨v, hp, hr⟩
theorem xp (c : Cq) : fp (ptR c) (tc c) := ⟨aqo _, aqo _⟩
theorem az3 {vs : List Rq} {x : Nd} {X r : Rq} {p : Int} (h : fv vs x X p = .ok r) : (ca vs x X p).2 = 0 ∧ (ca vs x X p).1 = r ∧ okR r = true := by
 unfold fv at h
 split at h
 ·rename_i g
  split at h
  ·rename_i k; cases h; exact ⟨g, rfl, k⟩
  ·cases h
 ·cases h
theorem alm {Z : Rq} {u : Cr} (p : Int) (hz : fp Z u) : ∀ (n : Nat) {r : Rq}, vo Z p n = some r → ∃ w, fp r w ∧ ∀ q, Vl q u → Vl (qw q n) w
 | 0, r, h => by cases h; exact ⟨tc ag, xp _, fun q _ => by rw [axk]; exact ⟨by show ag ≠ (0, 0); decide, by show tc ag = 1 * tc ag; grind⟩⟩
 | n + 1, r, h => by
  unfold vo at h
  rw [Option.bind_eq_some_iff] at h
  obtain ⟨s, hs, h⟩ := h
  split at h
  ·cases h
   obtain ⟨w, h1, h2⟩ := alm p hz n hs
   exact ⟨w * u, kd _ (acn h1 hz), fun q hq => (h2 q hq).times hq⟩
  ·cases h
theorem a00 {zs rs : List Rq} {x : Nd} {X r : Rq} {z : Cq} {p : Int} (h : Av zs rs) (hx : k9 x rs.length = true) (k7 : x.k ≤ 7) (hX : fp X (tc z)) (hs : fv zs x X p = .ok r) :
  ∃ q v, eb rs x z = some q ∧ Vl q v ∧ fp r v := by
 obtain ⟨k1, k10, fa, fb, _, _, f7, _⟩ := j7 hx
 obtain ⟨c0, rfl, ok⟩ := az3 hs
 clear hs
 have two : ∀ {q : Rq} {v : Cr}, bx rs x z = some q → Vl q v → fp (ca zs x X p).1 v → ∃ q v, eb rs x z = some q ∧ Vl q v ∧ fp (ca zs x X p).1 v :=
  fun {q v} e h1 h2 => ⟨q, v, akw e h1.ne, h1, h2⟩
 have kc : x.k = 1 ∨ x.k = 2 ∨ x.k = 3 ∨ x.k = 4 ∨ x.k = 5 ∨ x.k = 6 ∨ x.k = 7 := by omega
 rcases kc with k | k | k | k | k | k | k
 ·refine two (by unfold bx b9; rw [if_neg (by omega), if_neg (by omega), if_pos k]) (xy z) ?_
  unfold ca; rw [if_pos k]; exact hX
 ·refine two (by unfold bx b9; rw [if_neg (by omega), if_neg (by omega), if_neg (by omega), if_pos k]) (xy _) ?_
  unfold ca; rw [if_neg (by omega), if_pos k]; exact xp _
 ·obtain ⟨a0, a1⟩ := fa (by omega)
  obtain ⟨b0, b1⟩ := fb (by omega)
  obtain ⟨u, hu, hu'⟩ := h.v x.a.toNat (by omega)
  obtain ⟨v, hv, hv'⟩ := h.v x.b.toNat (by omega)
  refine two (by unfold bx; rw [if_pos k]) (hu.av5 hv) ?_
  unfold ca; rw [if_neg (by omega), if_neg (by omega), if_pos k]; exact kd _ (ar9 hu' hv')
 ·obtain ⟨a0, a1⟩ := fa (by omega)
  obtain ⟨b0, b1⟩ := fb (by omega)
  obtain ⟨u, hu, hu'⟩ := h.v x.a.toNat (by omega)
  obtain ⟨v, hv, hv'⟩ := h.v x.b.toNat (by omega)
  refine two (by unfold bx; rw [if_neg (by omega), if_pos k]) (hu.a24 hv) ?_
  unfold ca; rw [if_neg (by omega), if_neg (by omega), if_neg (by omega), if_pos k]; exact kd _ ⟨abf hu'.1 hv'.1, abf hu'.2 hv'.2⟩
 ·obtain ⟨a0, a1⟩ := fa (by omega)
  obtain ⟨b0, b1⟩ := fb (by omega)
  obtain ⟨u, hu, hu'⟩ := h.v x.a.toNat (by omega)
  obtain ⟨v, hv, hv'⟩ := h.v x.b.toNat (by omega)
  refine two (by unfold bx b9; rw [if_neg (by omega), if_neg (by omega), if_neg (by omega), if_neg (by omega), if_neg (by omega), if_neg (by omega), if_pos k]) (hu.times hv) ?_
  unfold ca; rw [if_neg (by omega), if_neg (by omega), if_neg (by omega), if_neg (by omega), if_pos k]
  refine kd _ ?_
  split
  ·rename_i e
   have hu2 := hu
   rw [e] at hu2
   have : u = v := by
    have e1 := hu2.eq
    have e2 := hv.eq
    rw [e1] at e2
    obtain ⟨d, hd⟩ := ae5 (axi hv.ne)
    have : (u - v) * (tc (rs.getD x.b.toNat (ag, ag)).2 * d) = 0 := by
     have : (u - v) * (tc (rs.getD x.b.toNat (ag, ag)).2 * d) = (u * tc (rs.getD x.b.toNat (ag, ag)).2 - v * tc (rs.getD x.b.toNat (ag, ag)).2) * d := by grind
     rw [this, e2]; grind
    rw [hd] at this; grind
   rw [← this]; exact awb hu'
  ·exact acn hu' hv'
 ·obtain ⟨a0, a1⟩ := fa (by omega)
  obtain ⟨b0, b1⟩ := fb (by omega)
  obtain ⟨u, hu, hu'⟩ := h.v x.a.toNat (by omega)
  obtain ⟨v, hv, hv'⟩ := h.v x.b.toNat (by omega)
  have e2 : bx rs x z = some (df (rs.getD x.a.toNat (ag, ag)) ((rs.getD x.b.toNat (ag, ag)).2, (rs.getD x.b.toNat (ag, ag)).1)) := by unfold bx b9; rw [if_neg (by omega), if_neg (by omega), if_neg (by omega), if_neg (by omega), if_neg (by omega), if_neg (by omega), if_neg (by omega), if_pos k]
  have e3 : ca zs x X p = roA (fq (zs.getD x.a.toNat (ag, ag)) (zs.getD x.b.toNat (ag, ag)) (p + 20)) p := by unfold ca; rw [if_neg (by omega), if_neg (by omega), if_neg (by omega), if_neg (by omega), if_neg (by omega), if_pos k]
  rw [e3] at c0
  by_cases z0 : v = 0
  ·rw [z0] at hv'
   rw [ah1 _ hv'] at c0
   exact absurd (show (11 : Int) = 0 from c0) (by decide)
  ·obtain ⟨d, hd⟩ := ae5 z0
   have g : (fq (zs.getD x.a.toNat (ag, ag)) (zs.getD x.b.toNat (ag, ag)) (p + 20)).2 = 0 := by
    unfold roA at c0; split at c0
    ·assumption
    ·exact c0
   refine two e2 (hu.times (hv.as0 hd)) ?_
   rw [e3]; unfold roA; rw [if_pos g]
   exact kd _ (ahw _ hu' hv' g hd)
 ·obtain ⟨a0, a1⟩ := fa (by omega)
  obtain ⟨u, hu, hu'⟩ := h.v x.a.toNat (by omega)
  have e3 : ca zs x X p = match vo (zs.getD x.a.toNat (ag, ag)) p x.n.toNat with | some r => (r, 0) | none => (zR, 13) := by unfold ca; rw [if_neg (by omega), if_neg (by omega), if_neg (by omega), if_neg (by omega), if_neg (by omega), if_neg (by omega), if_pos k]
  rw [e3] at c0
  cases hp : vo (zs.getD x.a.toNat (ag, ag)) p x.n.toNat with
  | none => rw [hp] at c0; exact absurd c0 (by decide)
  | some r =>
   obtain ⟨w, h1, h2⟩ := alm p hu' x.n.toNat hp
   refine two (by unfold bx b9; rw [if_neg (by omega), if_neg (by omega), if_neg (by omega), if_neg (by omega), if_neg (by omega), if_neg (by omega), if_neg (by omega), if_neg (by omega), if_pos k]) (h2 _ hu) ?_
   rw [e3, hp]; exact h1
theorem apg {xs : List Nd} {X : Rq} {z : Cq} {p : Int} (hx : gu xs = true) (k7 : ∀ i, i < xs.length → (xs.getD i Nd.nil).k ≤ 7) (hX : fp X (tc z)) : ∀ i, i ≤ xs.length → ∀ zs, atL xs X p i = .ok zs → ∃ rs, qk xs z i = some rs ∧ Av zs rs
 | 0, _, zs, h => by cases h; exact ⟨[], rfl, rfl, fun j h => absurd h (by simp)⟩
 | i + 1, hi, zs, h => by
  unfold atL at h
  cases e : atL xs X p i with
  | error c => rw [e] at h; cases h
  | ok us =>
   rw [e] at h
   dsimp only at h
   obtain ⟨rs, h1, h2⟩ := apg hx k7 hX i (by omega) us e
   have hx' := hx
   unfold gu at hx'
   simp only [Bool.and_eq_true, decide_eq_true_eq, List.all_eq_true, List.mem_range] at hx'
   have hn := hx'.2 i (by omega)
   have hl := akq h1
   rw [← hl] at hn
   cases g : fv us (xs.getD i Nd.nil) X p with
   | error c => rw [g] at h; cases h
   | ok r =>
    rw [g] at h; cases h
    rw [hl] at hn
    rw [← hl] at hn g
    obtain ⟨q, v, g1, g2, g3⟩ := a00 h2 hn (by rw [hl]; exact k7 i (by omega)) hX g
    rw [hl] at g1
    exact ⟨rs ++ [q], by unfold qk; rw [h1]; show (eb rs _ z).map _ = _; rw [g1]; rfl, h2.add g2 g3⟩
end Go.Ev.Ar

namespace Go.Ev.Ar
open Go Go.Ev Go.Proofs
theorem x7 {q : Dyadic} : dOk q = true ↔ -20000 ≤ ar q ∧ ar q ≤ 20000 := by
 constructor
 ·intro h
  unfold dOk fy at h
  rw [Bool.and_eq_true, Bool.and_eq_true, Bool.and_eq_true, Bool.and_eq_true] at h
  exact ⟨of_decide_eq_true h.1.1.2, of_decide_eq_true h.1.2⟩
 ·intro h; exact ak2 q h.1 h.2
theorem aeb {z : Rq} : okR z = true ↔ (dOk z.1.1 = true ∧ dOk z.1.2 = true) ∧ dOk z.2.1 = true ∧ dOk z.2.2 = true := by
 unfold okR; simp only [Bool.and_eq_true]; exact ⟨fun ⟨⟨⟨a, b⟩, c⟩, d⟩ => ⟨⟨a, b⟩, c, d⟩, fun ⟨⟨a, b⟩, c, d⟩ => ⟨⟨⟨a, b⟩, c⟩, d⟩⟩
def Nq (q : Dyadic) : Prop := Zt 250 (aj q) ∧ -20000 ≤ ar q ∧ ar q ≤ 20000
def Nr (z : Rq) : Prop := (Nq z.1.1 ∧ Nq z.1.2) ∧ Nq z.2.1 ∧ Nq z.2.2
theorem Nq.ht {q : Dyadic} (h : Nq q) : Ht 20300 q := by
 have := Ht.dof (h := 20300) (a := 250) (b := 20000) h.1 h.2.1 h.2.2 (by decide)
 rwa [br] at this
theorem Nr.hr {z : Rq} (h : Nr z) : Hr 20300 z := ⟨⟨h.1.1.ht, h.1.2.ht⟩, h.2.1.ht, h.2.2.ht⟩
theorem Nq.ds {q : Dyadic} (h : Nq q) : DyS (dyD q) q := by
 have r := DyR.of (h.ht.mono (b := 1048576) (by decide))
 have e : dof (zv (a7 (aj q)) (ofN (aj q).natAbs)) (ar q) = q := by rw [p5, br]
 have k : DyS (.agg [.bool (a7 (aj q)), sl (ofN (aj q).natAbs), .int .i64 (ar q)]) (dof (zv (a7 (aj q)) (ofN (aj q).natAbs)) (ar q)) :=
  .mk (h.1.len (by decide)) h.2.1 h.2.2 (by rw [e]; exact r)
 rw [e] at k; exact k
theorem Nq.zero : Nq 0 := ⟨Zt.small (by rw [x9]; decide) (by decide), by decide, by decide⟩
theorem afz {k e : Int} {q : Dyadic} (h : q = dof k e) (hk : k.natAbs ≤ 2 ^ 220) (ho : dOk q = true) : Nq q := by
 refine ⟨?_, x7.1 ho⟩
 by_cases k0 : k = 0
 ·rw [h, k0, wz]; exact Nq.zero.1
 ·have := (nk e k0).2.1
  unfold Zt
  rw [h, this]
  refine Nat.lt_of_le_of_lt (Nat.div_le_self _ _) (Nat.lt_of_le_of_lt hk ?_)
  exact Nat.pow_lt_pow_right (by decide) (by decide)
theorem aa8 {q : Dyadic} {p : Int} (mode : Int) (hm : mode = 0 ∨ mode = 1) (hp : p ≤ 220) (ho : dOk (rto q p mode) = true) : Nq (rto q p mode) := by
 unfold rto at ho ⊢
 split
 ·exact .zero
 rename_i h0
 rw [if_neg h0] at ho
 obtain ⟨k, hk⟩ := ai4 q (cp q p) 0
 obtain ⟨j, hj⟩ := ai4 q (cp q p) 1
 obtain ⟨g1, g2, g3, g4, _⟩ := ab4 q (cp q p)
 rw [hk] at g1 g3
 rw [hj] at g2 g4
 have s1 := wy k (cp q p)
 have s2 := wy (j - 1) (cp q p)
 rw [Int.sub_add_cancel] at s2
 have l := vj h0
 obtain ⟨K, hK⟩ : ∃ K : Nat, K = (min (max p 1) 4000).toNat := ⟨_, rfl⟩
 have hK2 : K ≤ 220 := by omega
 have e1 : dof (2 ^ K) (cp q p) = dof 1 (db q + 1) := by
  rw [hK, aec _ _ (by omega)]; unfold cp; congr 1; omega
 rw [← e1] at l
 obtain ⟨l1, l2⟩ := wv.1 l
 have e2 := n8 (2 ^ K) (cp q p)
 have a1 : dof k (cp q p) < dof (2 ^ K) (cp q p) := by grind
 have a2 : dof (-(2 ^ K)) (cp q p) < dof (k + 1) (cp q p) := by grind
 have a3 : dof (j - 1) (cp q p) < dof (2 ^ K) (cp q p) := by grind
 have a4 : dof (-(2 ^ K)) (cp q p) < dof j (cp q p) := by grind
 rw [ml] at a1 a2 a3 a4
 have pm : 2 ^ K ≤ 2 ^ 220 := Nat.pow_le_pow_right (by decide) hK2
 obtain ⟨A, hA⟩ : ∃ A : Nat, 2 ^ K = A := ⟨_, rfl⟩
 have pk : (2 : Int) ^ K = (A : Int) := by rw [← hA, Int.natCast_pow]; rfl
 rw [pk] at a1 a2 a3 a4
 rw [hA] at pm
 have b1 : k.natAbs ≤ A := by clear pm hA; omega
 have b2 : j.natAbs ≤ A := by clear pm hA; omega
 rcases hm with rfl | rfl
 ·exact afz hk (Nat.le_trans b1 pm) ho
 ·exact afz hj (Nat.le_trans b2 pm) ho
theorem af0 {z : Rq} {p : Int} (hp : p ≤ 220) (ho : okR (ba z p) = true) : Nr (ba z p) := by
 obtain ⟨⟨a, b⟩, c, d⟩ := aeb.1 ho
 exact ⟨⟨aa8 0 (.inl rfl) hp a, aa8 1 (.inr rfl) hp b⟩, aa8 0 (.inl rfl) hp c, aa8 1 (.inr rfl) hp d⟩
theorem n4 : D.agg [.bool false, sl [], .int .i64 0, .bool false, sl [], .int .i64 0, .bool false, sl [], .int .i64 0, .bool false, sl [], .int .i64 0] = rqD zR := by rw [← bh]; rfl
theorem a2j : ox zR := by unfold ox Ord zR; dsimp only; exact ⟨by grind, by grind⟩
theorem alz (z w : Rq) (p : Int) : ox (fq z w p).1 := by
 unfold fq; split
 ·exact a2j
 ·exact vu _ (qu _ _)
end Go.Ev.Ar
