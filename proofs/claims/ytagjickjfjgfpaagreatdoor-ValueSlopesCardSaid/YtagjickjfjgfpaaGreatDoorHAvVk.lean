/- Contracts of the given functions, on data. Conditions stand in each theorem. -/
import Derived.Test.YtagjickjfjgfpaaGreatDoorHEvR
import Derived.Test.YtagjickjfjgfpaaGreatDoorHAvVf
import Derived.Test.YtagjickjfjgfpaaGreatDoorHAvQuot
import Derived.Test.YtagjickjfjgfpaaGreatDoorHEvEc
import Derived.Test.YtagjickjfjgfpaaGreatDoorHAvWDiv
set_option linter.unusedSimpArgs false
set_option linter.unusedVariables false
namespace Go.Ev.Ar
open Go Go.Ev Go.Proofs
theorem auq {p q : Rq} (hp : p.2 ≠ (0, 0)) (hq : q.2 ≠ (0, 0)) : (adf p q).2 ≠ (0, 0) := me hp hq
theorem ayk {p q : Rq} (hp : p.2 ≠ (0, 0)) (hq : q.2 ≠ (0, 0)) : (ai9 p q).2 ≠ (0, 0) := me hp hq
theorem di {l : List D} (h : l.all (fun c => (A.d c).one) = true) : ∀ c ∈ l, (A.d c).one = true := List.all_eq_true.1 h
set_option maxRecDepth 10000 in
set_option maxHeartbeats 16000000 in
theorem aqc {xs : List Nd} {rz : RC} {z : Cq} (hn : xs.length < 2^62) (hl : ∀ x ∈ xs, x.r.l.length ≤ 4194304 ∧ x.r.k.length ≤ 4194304) (hzr : CxF (.agg rz.cells) z) (hcz : ∀ i, i < xs.length → CxF (.agg (xs.getD i Nd.nil).r.cells) (xs.getD i Nd.nil).r.val) (hz : Hc 104 z) (hc : ∀ i, i < xs.length → Hc 104 (xs.getD i Nd.nil).r.val) (hx : fu xs = true) (hb : ∀ i, i < xs.length → ef (szL xs i) (xs.getD i Nd.nil) i ≤ 60) :
  Sim Tryz.prog G0 false 48 [nsl xs, .agg rz.cells] (a0a (wq xs z xs.length)) := by
 have s0 := uk xs hn hl
 rw [hx] at s0
 unfold fu at hx
 simp only [Bool.and_eq_true, decide_eq_true_eq, List.all_eq_true, List.mem_range] at hx
 obtain ⟨⟨n0, n40⟩, hall⟩ := hx
 have s1 : Sim Tryz.prog G0 false 42 [.int .i64 1, .int .i64 0] (cxD ai) := vx 1 0 (by decide) (by decide) (by decide) (by decide)
 have s2 := qg hzr
 obtain ⟨bz, lz, ez, cz', kz, fz⟩ := rz
 refine ao (hs := (a0b _)) af Tryz.func48 ?_
 repeat' ((conv => whnf); first | with_reducible refine ag.data ?_ | refine aa.mk _ _ (s0) ?_ | refine aa.mk _ _ (s1) ?_ | refine rgE ?_ | refine Cd.mk rfl ?_ | refine Br.f ?_ | ((with_reducible refine EqE.idS ?_); (refine EqE.fP ?_; (conv => whnf); fail_if_success (show ae _ _))) | refine Cd.ol ?_)
 refine ⟨[(7, 500, 12)], [0, 3, 4, 6, 7, 8], [3, 4, 6, 500], fun m ys h => ∃ (i : Nat) (vs : List Rq), m = xs.length - i ∧ i ≤ xs.length ∧ vs.length = i ∧ wq xs z i = some vs ∧ Fit (szL xs i) vs ∧
   ys = [.d (nsl xs), .ptr 3 0, .ptr 4 0, .ptr 6 0, .own 500 0 i 12, .d (.int .i64 i)] ∧
   h = [(500, false, fa qc vs), (6, false, dyC 1 ++ dyC 0), (4, false, zeA ++ zeA ++ (zeA ++ zeA)), (3, false, [.d (.bool bz), .d (sl lz), .d (.int .i64 ez), .d (.bool cz'), .d (sl kz), .d (.int .i64 fz)])],
  ⟨rfl, rfl, ⟨Nat.le_of_ble_eq_true rfl, Nat.le_of_ble_eq_true rfl⟩, _, _, _, ⟨.inl rfl, rfl, rfl, rfl⟩, 0, [], rfl, by omega, rfl, rfl, Fit.nil, rfl, rfl⟩, ?_⟩
 rintro m ys h ⟨i, vs, rfl, hi, hvl, hex, hfit, rfl, rfl⟩
 by_cases hlt : i < xs.length
 ·subst hvl
  have hx' := hall _ hlt
  have hcx := hc _ hlt
  have hsz := hb _ hlt
  have hvr := fun r h => aiw (r := r) hfit hx' hz hcx hsz h
  have fx := ik hx'
  have s3 := qg (hcz _ hlt)
  have hstep := fun (r : Rq) hv hr => aie (r := r) hex rfl hv hr
  have hstop := fun hv => az9 (n := xs.length) hex rfl hv hlt
  have hfadd := fun (r : Rq) hv (hr : r.2 ≠ (0, 0)) => hfit.add ⟨(hvr r hv).1, hsz⟩ (hvr r hv).2 hr
  have hszl : szL xs (vs.length + 1) = szL xs vs.length ++ [ef (szL xs vs.length) (xs.getD vs.length Nd.nil) vs.length] := rfl
  rw [← hszl] at hfadd
  have h66 : (ef (szL xs vs.length) (xs.getD vs.length Nd.nil) vs.length).toNat ≤ 60 := by omega
  have hr9 : ∀ r, eu vs (xs.getD vs.length Nd.nil) z = some r → Hr 9000 r := fun r hv => Hr.mono (hvr r hv).2 (by omega)
  have hp9 : ∀ j, j < vs.length → Hr 9000 (vs.getD j (ai, ai)) := fun j hj => Hr.mono (hfit.v j hj) (by have := hfit.s1 j hj; omega)
  have hpw : ∀ a : Int, 0 ≤ a → a.toNat < vs.length → (xs.getD vs.length Nd.nil).k = 7 → (xs.getD vs.length Nd.nil).a = a → ∀ j : Nat, j ≤ (xs.getD vs.length Nd.nil).n.toNat → Hr 9000 (rm (vs.getD a.toNat (ai, ai)) j) := fun a ha0 ha1 hk ha j hj => by
   have sa := hfit.s1 a.toNat ha1
   have va := hfit.v a.toNat ha1
   have f7 := fx.2.2.2.2.2.2.1 hk
   unfold ef at hsz
   rw [if_pos ⟨hk, dg.2 (by rw [ha]; omega)⟩, ha] at hsz
   generalize (szL xs vs.length).getD a.toNat 0 = s at *
   obtain ⟨s, rfl⟩ := Int.eq_ofNat_of_zero_le (show 0 ≤ s by omega)
   obtain ⟨N, hN⟩ := Int.eq_ofNat_of_zero_le f7.1
   rw [hN] at hsz hj f7
   rw [Int.toNat_natCast] at va hj
   rw [show (max 1 (min (N : Int) 64) : Int) = ((max 1 N : Nat) : Int) by omega, ← Int.natCast_mul] at hsz
   have g : s * j ≤ s * max 1 N := Nat.mul_le_mul_left s (by omega)
   refine Hr.mono (ae2 va j) ?_
   have : (110 * s + 1) * j + 1 = 110 * (s * j) + j + 1 := by rw [Nat.add_mul, Nat.one_mul, Nat.mul_assoc]
   omega
  clear hvr hc hb hall hsz h66 hcx hcz
  generalize hxx : xs.getD vs.length Nd.nil = x at *
  obtain ⟨k, a, b, n', ⟨b1, l1, e1, c1, k1, f1⟩⟩ := x
  obtain ⟨kk1, kk10, fa', fb', ga, gb, f7, f2⟩ := fx
  dsimp only at kk1 kk10 fa' fb' ga gb f7 f2 hpw
  have kc : k = 1 ∨ k = 2 ∨ k = 3 ∨ k = 4 ∨ k = 5 ∨ k = 6 ∨ k = 7 ∨ (8 ≤ k ∧ k ≤ 10) := by omega
  rcases kc with rfl | rfl | rfl | rfl | rfl | rfl | rfl | k8
  ·have a0 := ga (by omega)
   have b0 := gb (by omega)
   subst a0 b0
   have hv : eu vs ⟨1, 0, 0, n', ⟨b1, l1, e1, c1, k1, f1⟩⟩ z = some (z, ai) := rfl
   have hst := hstep _ hv n7
   have hfa := hfadd _ hv n7
   have sZ := iv (t := false) (a := ai) (se 50000 (by decide)) (by decide)
   clear hr9 hp9 hpw hstep hfadd hstop hv fa' fb' ga gb f7 f2 hz hzr
   clear s3
   obtain ⟨z1, z2⟩ := z
   repeat' ((conv => whnf); first | with_reducible refine ag.data ?_ | with_reducible refine Br.bt fun _ => ?_ | refine aa.mk _ _ (s2) ?_ | refine Cd.mk (ba xs _ (by omega)) ?_ | ((with_reducible show TkE (List.drop _ (List.flatMap Nd.cells _)) _ _ _); refine TkE.mk _ ((cg xs vs.length hlt).trans (congrArg Nd.cells hxx)) rfl ?_) | refine Cd.mk (du xx _) ?_ | refine Cd.mk (di rfl) ?_ | refine DsE.mk [_, _, _, _, _, _, _, _, _, _, _, _] rfl ?_ | ((with_reducible show DsE (fa qc vs) _); refine DsE.mk (vs.flatMap qc) rfl ?_) | ((with_reducible show EqE (fa qc vs ++ _) _); refine EqE.mk _ (aag vs ((z1, z2), ai)) ?_) | refine an.go _ _ ⟨.inl rfl, rfl, rfl, az _ _ _ _ _ _ rfl⟩ ?_ | refine aa.mk _ _ (sZ) ?_ | refine rgE ?_ | refine Cd.mk rfl ?_ | refine Br.t ?_ | refine Br.f ?_ | refine ah.mk _ rfl ?_ | (refine TkE.fL ?_; (conv => whnf); fail_if_success (show ae _ _)) | ((with_reducible refine EqE.idW ?_); with_reducible refine EqE.mk _ (ax _ (by omega)) ?_) | ((with_reducible refine EqE.idS ?_); (refine EqE.fP ?_; (conv => whnf); fail_if_success (show ae _ _))) | refine Cd.ol ?_ | refine Cd.mk ⟨rfl, rfl⟩ ?_ | refine Cd.os ?_)
   exact ⟨_, ⟨vs.length + 1, vs ++ [_], rfl, by omega, by simp, hst, hfa, rfl, rfl⟩, by omega⟩
  ·have a0 := ga (by omega)
   have b0 := gb (by omega)
   subst a0 b0
   have hv : eu vs ⟨2, 0, 0, n', ⟨b1, l1, e1, c1, k1, f1⟩⟩ z = some ((⟨b1, l1, e1, c1, k1, f1⟩ : RC).val, ai) := rfl
   have hst := hstep _ hv n7
   have hfa := hfadd _ hv n7
   have sZ := iv (t := false) (a := ai) (se 50000 (by decide)) (by decide)
   clear hr9 hp9 hpw hstep hfadd hstop hv fa' fb' ga gb f7 f2 hz hzr
   generalize (⟨b1, l1, e1, c1, k1, f1⟩ : RC).val = u at *
   obtain ⟨u1, u2⟩ := u
   obtain ⟨z1, z2⟩ := z
   repeat' ((conv => whnf); first | with_reducible refine ag.data ?_ | with_reducible refine Br.bt fun _ => ?_ | refine aa.mk _ _ (s2) ?_ | refine Cd.mk (ba xs _ (by omega)) ?_ | ((with_reducible show TkE (List.drop _ (List.flatMap Nd.cells _)) _ _ _); refine TkE.mk _ ((cg xs vs.length hlt).trans (congrArg Nd.cells hxx)) rfl ?_) | refine Cd.mk (du xx _) ?_ | refine Cd.mk (di rfl) ?_ | refine DsE.mk [_, _, _, _, _, _, _, _, _, _, _, _] rfl ?_ | ((with_reducible show DsE (fa qc vs) _); refine DsE.mk (vs.flatMap qc) rfl ?_) | ((with_reducible show EqE (fa qc vs ++ _) _); refine EqE.mk _ (aag vs ((u1, u2), ai)) ?_) | refine an.go _ _ ⟨.inl rfl, rfl, rfl, az _ _ _ _ _ _ rfl⟩ ?_ | refine aa.mk _ _ (s3) ?_ | refine aa.mk _ _ (sZ) ?_ | refine rgE ?_ | refine Cd.mk rfl ?_ | refine Br.t ?_ | refine Br.f ?_ | refine ah.mk _ rfl ?_ | (refine TkE.fL ?_; (conv => whnf); fail_if_success (show ae _ _)) | ((with_reducible refine EqE.idW ?_); with_reducible refine EqE.mk _ (ax _ (by omega)) ?_) | ((with_reducible refine EqE.idS ?_); (refine EqE.fP ?_; (conv => whnf); fail_if_success (show ae _ _))) | refine Cd.ol ?_ | refine Cd.mk ⟨rfl, rfl⟩ ?_ | refine Cd.os ?_)
   exact ⟨_, ⟨vs.length + 1, vs ++ [_], rfl, by omega, by simp, hst, hfa, rfl, rfl⟩, by omega⟩
  ·obtain ⟨a0, a1⟩ := fa' (by omega)
   obtain ⟨b0, b1'⟩ := fb' (by omega)
   have L1 := ui (vs := vs) a0 (by omega)
   have L2 := ui (vs := vs) b0 (by omega)
   have pa := hp9 a.toNat (by omega)
   have pb := hp9 b.toNat (by omega)
   have na := hfit.nz a.toNat (by omega)
   have nb' := hfit.nz b.toNat (by omega)
   have hv : eu vs ⟨3, a, b, n', ⟨b1, l1, e1, c1, k1, f1⟩⟩ z = some (adf (vs.getD a.toNat (ai, ai)) (vs.getD b.toNat (ai, ai))) := rfl
   clear hpw hp9 s3
   generalize vs.getD a.toNat (ai, ai) = p at *
   generalize vs.getD b.toNat (ai, ai) = q at *
   obtain ⟨r, hr⟩ : ∃ r, adf p q = r := ⟨_, rfl⟩
   rw [hr] at hv
   have h9 := hr9 _ hv
   have er1 := congrArg Prod.fst hr
   have er2 := congrArg Prod.snd hr
   have ne : r.2 ≠ (0, 0) := hr ▸ auq na nb'
   have m1 := fk (pa.1.mono (show 9000 ≤ 20000 by decide)) (pb.2.mono (show 9000 ≤ 20000 by decide)) rfl
   have m2 := fk (pb.1.mono (show 9000 ≤ 20000 by decide)) (pa.2.mono (show 9000 ≤ 20000 by decide)) rfl
   have m3 := fk (w := r.2) (pa.2.mono (show 9000 ≤ 20000 by decide)) (pb.2.mono (show 9000 ≤ 20000 by decide)) er2
   have h2 : Hc 18001 (ar p.1 q.2) := Hc.ar pa.1 pb.2 (by decide)
   have h3 : Hc 18001 (ar q.1 p.2) := Hc.ar pb.1 pa.2 (by decide)
   have m4 := ab2 (w := r.1) (h2.mono (show 18001 ≤ 40000 by decide)) (h3.mono (show 18001 ≤ 40000 by decide)) er1
   clear er1 er2 h2 h3
   have hst := hstep _ hv ne
   have hfa := hfadd _ hv ne
   have sZ := iv (t := false) (show Hc 50000 r.2 from h9.2.mono (by decide)) (decide_eq_false ne)
   clear pa pb na nb' hr hr9 hstep hstop hfadd hv fa' fb' ga gb f7 f2 hz hzr
   generalize ar p.1 q.2 = w1 at *
   generalize ar q.1 p.2 = w2 at *
   obtain ⟨_, _⟩ := w1
   obtain ⟨_, _⟩ := w2
   obtain ⟨⟨_, _⟩, ⟨_, _⟩⟩ := p
   obtain ⟨⟨_, _⟩, ⟨_, _⟩⟩ := q
   obtain ⟨⟨r1, r2⟩, ⟨r3, r4⟩⟩ := r
   obtain ⟨_, _⟩ := z
   repeat' ((conv => whnf); first | with_reducible refine ag.data ?_ | refine cx.ia (ps := [(10, 5), (10, 6), (10, 7), (10, 8), (10, 9)]) rfl (by kernel_rfl) ?_ rfl | with_reducible refine Br.bt fun _ => ?_ | refine aa.mk _ _ (s2) ?_ | refine Cd.mk (ba xs _ (by omega)) ?_ | ((with_reducible show TkE (List.drop _ (List.flatMap Nd.cells _)) _ _ _); refine TkE.mk _ ((cg xs vs.length hlt).trans (congrArg Nd.cells hxx)) rfl ?_) | ((with_reducible show TkE (fa qc vs) (0 + Int.toNat a * _) _ _); refine TkE.mk _ L1 rfl ?_) | ((with_reducible show TkE (fa qc vs) (0 + Int.toNat b * _) _ _); refine TkE.mk _ L2 rfl ?_) | refine Cd.mk (du xx _) ?_ | refine Cd.mk (di rfl) ?_ | refine DsE.mk [_, _, _, _, _, _, _, _, _, _, _, _] rfl ?_ | ((with_reducible show DsE (fa qc vs) _); refine DsE.mk (vs.flatMap qc) rfl ?_) | ((with_reducible show EqE (fa qc vs ++ _) _); refine EqE.mk _ (aag vs ((r1, r2), (r3, r4))) ?_) | refine an.go _ _ ⟨.inl rfl, rfl, rfl, az _ _ _ _ _ _ rfl⟩ ?_ | refine aa.mk _ _ (m1) ?_ | refine aa.mk _ _ (m2) ?_ | refine aa.mk _ _ (m3) ?_ | refine aa.mk _ _ (m4) ?_ | refine aa.mk _ _ (sZ) ?_ | refine rgE ?_ | refine Cd.mk rfl ?_ | refine Br.t ?_ | refine Br.f ?_ | refine ah.mk _ rfl ?_ | (refine TkE.fL ?_; (conv => whnf); fail_if_success (show ae _ _)) | refine b7.mk (by repeat first | exact True.intro | refine And.intro (by kernel_rfl) ?_) ?_ | ((with_reducible refine EqE.idW ?_); with_reducible refine EqE.mk _ (ax _ (by omega)) ?_) | ((with_reducible refine EqE.idS ?_); (refine EqE.fP ?_; (conv => whnf); fail_if_success (show ae _ _))) | refine Cd.ol ?_ | refine Cd.mk ⟨rfl, rfl⟩ ?_ | refine Cd.os ?_)
   exact ⟨_, ⟨vs.length + 1, vs ++ [_], rfl, by omega, by simp, hst, hfa, rfl, rfl⟩, by omega⟩
  ·obtain ⟨a0, a1⟩ := fa' (by omega)
   obtain ⟨b0, b1'⟩ := fb' (by omega)
   have L1 := ui (vs := vs) a0 (by omega)
   have L2 := ui (vs := vs) b0 (by omega)
   have pa := hp9 a.toNat (by omega)
   have pb := hp9 b.toNat (by omega)
   have na := hfit.nz a.toNat (by omega)
   have nb' := hfit.nz b.toNat (by omega)
   have hv : eu vs ⟨4, a, b, n', ⟨b1, l1, e1, c1, k1, f1⟩⟩ z = some (ai9 (vs.getD a.toNat (ai, ai)) (vs.getD b.toNat (ai, ai))) := rfl
   clear hpw hp9 s3
   generalize vs.getD a.toNat (ai, ai) = p at *
   generalize vs.getD b.toNat (ai, ai) = q at *
   obtain ⟨r, hr⟩ : ∃ r, ai9 p q = r := ⟨_, rfl⟩
   rw [hr] at hv
   have h9 := hr9 _ hv
   have er1 := congrArg Prod.fst hr
   have er2 := congrArg Prod.snd hr
   have ne : r.2 ≠ (0, 0) := hr ▸ ayk na nb'
   have m1 := fk (pa.1.mono (show 9000 ≤ 20000 by decide)) (pb.2.mono (show 9000 ≤ 20000 by decide)) rfl
   have m2 := fk (pb.1.mono (show 9000 ≤ 20000 by decide)) (pa.2.mono (show 9000 ≤ 20000 by decide)) rfl
   have m3 := fk (w := r.2) (pa.2.mono (show 9000 ≤ 20000 by decide)) (pb.2.mono (show 9000 ≤ 20000 by decide)) er2
   have h2 : Hc 18001 (ar p.1 q.2) := Hc.ar pa.1 pb.2 (by decide)
   have h3 : Hc 18001 (ar q.1 p.2) := Hc.ar pb.1 pa.2 (by decide)
   have m4 := a1k (w := r.1) (h2.mono (show 18001 ≤ 40000 by decide)) (h3.mono (show 18001 ≤ 40000 by decide)) er1
   clear er1 er2 h2 h3
   have hst := hstep _ hv ne
   have hfa := hfadd _ hv ne
   have sZ := iv (t := false) (show Hc 50000 r.2 from h9.2.mono (by decide)) (decide_eq_false ne)
   clear pa pb na nb' hr hr9 hstep hstop hfadd hv fa' fb' ga gb f7 f2 hz hzr
   generalize ar p.1 q.2 = w1 at *
   generalize ar q.1 p.2 = w2 at *
   obtain ⟨_, _⟩ := w1
   obtain ⟨_, _⟩ := w2
   obtain ⟨⟨_, _⟩, ⟨_, _⟩⟩ := p
   obtain ⟨⟨_, _⟩, ⟨_, _⟩⟩ := q
   obtain ⟨⟨r1, r2⟩, ⟨r3, r4⟩⟩ := r
   obtain ⟨_, _⟩ := z
   repeat' ((conv => whnf); first | with_reducible refine ag.data ?_ | refine cx.ia (ps := [(10, 5), (10, 6), (10, 7), (10, 8), (10, 9)]) rfl (by kernel_rfl) ?_ rfl | with_reducible refine Br.bt fun _ => ?_ | refine aa.mk _ _ (s2) ?_ | refine Cd.mk (ba xs _ (by omega)) ?_ | ((with_reducible show TkE (List.drop _ (List.flatMap Nd.cells _)) _ _ _); refine TkE.mk _ ((cg xs vs.length hlt).trans (congrArg Nd.cells hxx)) rfl ?_) | ((with_reducible show TkE (fa qc vs) (0 + Int.toNat a * _) _ _); refine TkE.mk _ L1 rfl ?_) | ((with_reducible show TkE (fa qc vs) (0 + Int.toNat b * _) _ _); refine TkE.mk _ L2 rfl ?_) | refine Cd.mk (du xx _) ?_ | refine Cd.mk (di rfl) ?_ | refine DsE.mk [_, _, _, _, _, _, _, _, _, _, _, _] rfl ?_ | ((with_reducible show DsE (fa qc vs) _); refine DsE.mk (vs.flatMap qc) rfl ?_) | ((with_reducible show EqE (fa qc vs ++ _) _); refine EqE.mk _ (aag vs ((r1, r2), (r3, r4))) ?_) | refine an.go _ _ ⟨.inl rfl, rfl, rfl, az _ _ _ _ _ _ rfl⟩ ?_ | refine aa.mk _ _ (m1) ?_ | refine aa.mk _ _ (m2) ?_ | refine aa.mk _ _ (m3) ?_ | refine aa.mk _ _ (m4) ?_ | refine aa.mk _ _ (sZ) ?_ | refine rgE ?_ | refine Cd.mk rfl ?_ | refine Br.t ?_ | refine Br.f ?_ | refine ah.mk _ rfl ?_ | (refine TkE.fL ?_; (conv => whnf); fail_if_success (show ae _ _)) | refine b7.mk (by repeat first | exact True.intro | refine And.intro (by kernel_rfl) ?_) ?_ | ((with_reducible refine EqE.idW ?_); with_reducible refine EqE.mk _ (ax _ (by omega)) ?_) | ((with_reducible refine EqE.idS ?_); (refine EqE.fP ?_; (conv => whnf); fail_if_success (show ae _ _))) | refine Cd.ol ?_ | refine Cd.mk ⟨rfl, rfl⟩ ?_ | refine Cd.os ?_)
   exact ⟨_, ⟨vs.length + 1, vs ++ [_], rfl, by omega, by simp, hst, hfa, rfl, rfl⟩, by omega⟩
  ·obtain ⟨a0, a1⟩ := fa' (by omega)
   obtain ⟨b0, b1'⟩ := fb' (by omega)
   have L1 := ui (vs := vs) a0 (by omega)
   have L2 := ui (vs := vs) b0 (by omega)
   have pa := hp9 a.toNat (by omega)
   have pb := hp9 b.toNat (by omega)
   have na := hfit.nz a.toNat (by omega)
   have nb' := hfit.nz b.toNat (by omega)
   have hv : eu vs ⟨5, a, b, n', ⟨b1, l1, e1, c1, k1, f1⟩⟩ z = some (mw (vs.getD a.toNat (ai, ai)) (vs.getD b.toNat (ai, ai))) := rfl
   clear hpw hp9 s3
   generalize vs.getD a.toNat (ai, ai) = p at *
   generalize vs.getD b.toNat (ai, ai) = q at *
   obtain ⟨r, hr⟩ : ∃ r, mw p q = r := ⟨_, rfl⟩
   rw [hr] at hv
   have h9 := hr9 _ hv
   have er1 := congrArg Prod.fst hr
   have er2 := congrArg Prod.snd hr
   have ne : r.2 ≠ (0, 0) := hr ▸ me na nb'
   have m1 := fk (w := r.1) (pa.1.mono (show 9000 ≤ 20000 by decide)) (pb.1.mono (show 9000 ≤ 20000 by decide)) er1
   have m2 := fk (w := r.2) (pa.2.mono (show 9000 ≤ 20000 by decide)) (pb.2.mono (show 9000 ≤ 20000 by decide)) er2
   clear er1 er2
   have hst := hstep _ hv ne
   have hfa := hfadd _ hv ne
   have sZ := iv (t := false) (show Hc 50000 r.2 from h9.2.mono (by decide)) (decide_eq_false ne)
   clear pa pb na nb' hr hr9 hstep hstop hfadd hv fa' fb' ga gb f7 f2 hz hzr
   obtain ⟨⟨_, _⟩, ⟨_, _⟩⟩ := p
   obtain ⟨⟨_, _⟩, ⟨_, _⟩⟩ := q
   obtain ⟨⟨r1, r2⟩, ⟨r3, r4⟩⟩ := r
   obtain ⟨_, _⟩ := z
   repeat' ((conv => whnf); first | with_reducible refine ag.data ?_ | refine cx.ia (ps := [(10, 5), (10, 6), (10, 7), (10, 8), (10, 9)]) rfl (by kernel_rfl) ?_ rfl | with_reducible refine Br.bt fun _ => ?_ | refine aa.mk _ _ (s2) ?_ | refine Cd.mk (ba xs _ (by omega)) ?_ | ((with_reducible show TkE (List.drop _ (List.flatMap Nd.cells _)) _ _ _); refine TkE.mk _ ((cg xs vs.length hlt).trans (congrArg Nd.cells hxx)) rfl ?_) | ((with_reducible show TkE (fa qc vs) (0 + Int.toNat a * _) _ _); refine TkE.mk _ L1 rfl ?_) | ((with_reducible show TkE (fa qc vs) (0 + Int.toNat b * _) _ _); refine TkE.mk _ L2 rfl ?_) | refine Cd.mk (du xx _) ?_ | refine Cd.mk (di rfl) ?_ | refine DsE.mk [_, _, _, _, _, _, _, _, _, _, _, _] rfl ?_ | ((with_reducible show DsE (fa qc vs) _); refine DsE.mk (vs.flatMap qc) rfl ?_) | ((with_reducible show EqE (fa qc vs ++ _) _); refine EqE.mk _ (aag vs ((r1, r2), (r3, r4))) ?_) | refine an.go _ _ ⟨.inl rfl, rfl, rfl, az _ _ _ _ _ _ rfl⟩ ?_ | refine aa.mk _ _ (m1) ?_ | refine aa.mk _ _ (m2) ?_ | refine aa.mk _ _ (sZ) ?_ | refine rgE ?_ | refine Cd.mk rfl ?_ | refine Br.t ?_ | refine Br.f ?_ | refine ah.mk _ rfl ?_ | (refine TkE.fL ?_; (conv => whnf); fail_if_success (show ae _ _)) | refine b7.mk (by repeat first | exact True.intro | refine And.intro (by kernel_rfl) ?_) ?_ | ((with_reducible refine EqE.idW ?_); with_reducible refine EqE.mk _ (ax _ (by omega)) ?_) | ((with_reducible refine EqE.idS ?_); (refine EqE.fP ?_; (conv => whnf); fail_if_success (show ae _ _))) | refine Cd.ol ?_ | refine Cd.mk ⟨rfl, rfl⟩ ?_ | refine Cd.os ?_)
   exact ⟨_, ⟨vs.length + 1, vs ++ [_], rfl, by omega, by simp, hst, hfa, rfl, rfl⟩, by omega⟩
  ·obtain ⟨a0, a1⟩ := fa' (by omega)
   obtain ⟨b0, b1'⟩ := fb' (by omega)
   have L1 := ui (vs := vs) a0 (by omega)
   have L2 := ui (vs := vs) b0 (by omega)
   have pa := hp9 a.toNat (by omega)
   have pb := hp9 b.toNat (by omega)
   have na := hfit.nz a.toNat (by omega)
   have nb' := hfit.nz b.toNat (by omega)
   have hv : eu vs ⟨6, a, b, n', ⟨b1, l1, e1, c1, k1, f1⟩⟩ z = some (mw (vs.getD a.toNat (ai, ai)) ((vs.getD b.toNat (ai, ai)).2, (vs.getD b.toNat (ai, ai)).1)) := rfl
   clear hpw hp9 s3
   generalize vs.getD a.toNat (ai, ai) = p at *
   generalize vs.getD b.toNat (ai, ai) = q at *
   obtain ⟨r, hr⟩ : ∃ r, mw p (q.2, q.1) = r := ⟨_, rfl⟩
   rw [hr] at hv
   have h9 := hr9 _ hv
   have er1 := congrArg Prod.fst hr
   have er2 := congrArg Prod.snd hr
   have m1 := fk (w := r.1) (pa.1.mono (show 9000 ≤ 20000 by decide)) (pb.2.mono (show 9000 ≤ 20000 by decide)) er1
   have m2 := fk (w := r.2) (pa.2.mono (show 9000 ≤ 20000 by decide)) (pb.1.mono (show 9000 ≤ 20000 by decide)) er2
   clear er1 er2
   by_cases ne : r.2 = (0, 0)
   ·have sZ := iv (t := true) (show Hc 50000 r.2 from h9.2.mono (by decide)) (decide_eq_true ne)
    have hno := hstop (show sx vs _ z = none by unfold sx; rw [hv]; show (if r.2 = (0, 0) then none else some r) = none; rw [if_pos ne])
    rw [hno]
    clear pa pb na nb' hr hr9 hstep hstop hfadd hv fa' fb' ga gb f7 f2 hz hzr
    obtain ⟨⟨_, _⟩, ⟨_, _⟩⟩ := p
    obtain ⟨⟨_, _⟩, ⟨_, _⟩⟩ := q
    obtain ⟨⟨r1, r2⟩, ⟨r3, r4⟩⟩ := r
    obtain ⟨_, _⟩ := z
    repeat' ((conv => whnf); first | with_reducible refine ag.data ?_ | refine cx.ia (ps := [(10, 5), (10, 6), (10, 7), (10, 8), (10, 9)]) rfl (by kernel_rfl) ?_ rfl | with_reducible refine Br.bt fun _ => ?_ | refine aa.mk _ _ (s2) ?_ | refine Cd.mk (ba xs _ (by omega)) ?_ | ((with_reducible show TkE (List.drop _ (List.flatMap Nd.cells _)) _ _ _); refine TkE.mk _ ((cg xs vs.length hlt).trans (congrArg Nd.cells hxx)) rfl ?_) | ((with_reducible show TkE (fa qc vs) (0 + Int.toNat a * _) _ _); refine TkE.mk _ L1 rfl ?_) | ((with_reducible show TkE (fa qc vs) (0 + Int.toNat b * _) _ _); refine TkE.mk _ L2 rfl ?_) | refine aa.mk _ _ (m1) ?_ | refine aa.mk _ _ (m2) ?_ | refine aa.mk _ _ (sZ) ?_ | refine rgE ?_ | refine Cd.mk rfl ?_ | refine Br.t ?_ | refine Br.f ?_ | refine ah.mk _ rfl ?_ | (refine TkE.fL ?_; (conv => whnf); fail_if_success (show ae _ _)) | refine Res.mk ?_ | refine b7.mk (by repeat first | exact True.intro | refine And.intro (by kernel_rfl) ?_) ?_ | ((with_reducible refine EqE.idS ?_); (refine EqE.fP ?_; (conv => whnf); fail_if_success (show ae _ _))) | refine Cd.ol ?_ | refine Cd.os ?_)
    rfl
   ·have hst := hstep _ hv ne
    have hfa := hfadd _ hv ne
    have sZ := iv (t := false) (show Hc 50000 r.2 from h9.2.mono (by decide)) (decide_eq_false ne)
    clear pa pb na nb' hr hr9 hstep hstop hfadd hv fa' fb' ga gb f7 f2 hz hzr
    obtain ⟨⟨_, _⟩, ⟨_, _⟩⟩ := p
    obtain ⟨⟨_, _⟩, ⟨_, _⟩⟩ := q
    obtain ⟨⟨r1, r2⟩, ⟨r3, r4⟩⟩ := r
    obtain ⟨_, _⟩ := z
    repeat' ((conv => whnf); first | with_reducible refine ag.data ?_ | refine cx.ia (ps := [(10, 5), (10, 6), (10, 7), (10, 8), (10, 9)]) rfl (by kernel_rfl) ?_ rfl | with_reducible refine Br.bt fun _ => ?_ | refine aa.mk _ _ (s2) ?_ | refine Cd.mk (ba xs _ (by omega)) ?_ | ((with_reducible show TkE (List.drop _ (List.flatMap Nd.cells _)) _ _ _); refine TkE.mk _ ((cg xs vs.length hlt).trans (congrArg Nd.cells hxx)) rfl ?_) | ((with_reducible show TkE (fa qc vs) (0 + Int.toNat a * _) _ _); refine TkE.mk _ L1 rfl ?_) | ((with_reducible show TkE (fa qc vs) (0 + Int.toNat b * _) _ _); refine TkE.mk _ L2 rfl ?_) | refine Cd.mk (du xx _) ?_ | refine Cd.mk (di rfl) ?_ | refine DsE.mk [_, _, _, _, _, _, _, _, _, _, _, _] rfl ?_ | ((with_reducible show DsE (fa qc vs) _); refine DsE.mk (vs.flatMap qc) rfl ?_) | ((with_reducible show EqE (fa qc vs ++ _) _); refine EqE.mk _ (aag vs ((r1, r2), (r3, r4))) ?_) | refine an.go _ _ ⟨.inl rfl, rfl, rfl, az _ _ _ _ _ _ rfl⟩ ?_ | refine aa.mk _ _ (m1) ?_ | refine aa.mk _ _ (m2) ?_ | refine aa.mk _ _ (sZ) ?_ | refine rgE ?_ | refine Cd.mk rfl ?_ | refine Br.t ?_ | refine Br.f ?_ | refine ah.mk _ rfl ?_ | (refine TkE.fL ?_; (conv => whnf); fail_if_success (show ae _ _)) | refine b7.mk (by repeat first | exact True.intro | refine And.intro (by kernel_rfl) ?_) ?_ | ((with_reducible refine EqE.idW ?_); with_reducible refine EqE.mk _ (ax _ (by omega)) ?_) | ((with_reducible refine EqE.idS ?_); (refine EqE.fP ?_; (conv => whnf); fail_if_success (show ae _ _))) | refine Cd.ol ?_ | refine Cd.mk ⟨rfl, rfl⟩ ?_ | refine Cd.os ?_)
    exact ⟨_, ⟨vs.length + 1, vs ++ [_], rfl, by omega, by simp, hst, hfa, rfl, rfl⟩, by omega⟩
  ·obtain ⟨a0, a1⟩ := fa' (by omega)
   have b0 := gb (by omega)
   subst b0
   obtain ⟨n0', n64⟩ := f7 rfl
   obtain ⟨N, rfl⟩ := Int.eq_ofNat_of_zero_le n0'
   have L1 := ui (vs := vs) a0 (by omega)
   have L2 := ui (vs := vs) (a := 0) (by omega) (by rw [show (0 : Int).toNat = 0 from rfl]; omega)
   have pa := hp9 a.toNat (by omega)
   have na := hfit.nz a.toNat (by omega)
   have pw := hpw a a0 (by omega) rfl rfl
   rw [Int.toNat_natCast] at pw
   have hv : eu vs ⟨7, a, 0, (N : Int), ⟨b1, l1, e1, c1, k1, f1⟩⟩ z = some (rm (vs.getD a.toNat (ai, ai)) N) := rfl
   clear hpw hp9 s3
   generalize vs.getD a.toNat (ai, ai) = p at *
   generalize vs.getD (0 : Int).toNat (ai, ai) = q at *
   have ne := ak8 na N
   have hst := hstep _ hv ne
   have hfa := hfadd _ hv ne
   have h9 := hr9 _ hv
   rw [ab5] at hst hfa ne h9
   have m1 := asz N (by omega) (pa.1.mono (show 9000 ≤ 20000 by decide)) (fun i hi => by have := pw i hi; rw [ab5] at this; exact this.1.mono (by decide))
   have m2 := asz N (by omega) (pa.2.mono (show 9000 ≤ 20000 by decide)) (fun i hi => by have := pw i hi; rw [ab5] at this; exact this.2.mono (by decide))
   have sZ := iv (t := false) (show Hc 50000 (cpw p.2 N) from h9.2.mono (by decide)) (decide_eq_false ne)
   clear hr9 hstep hstop hfadd hv fa' ga gb f7 f2 na hz hzr pa pw h9 ne
   generalize cpw p.1 N = w1 at *
   generalize cpw p.2 N = w2 at *
   obtain ⟨r1, r2⟩ := w1
   obtain ⟨r3, r4⟩ := w2
   obtain ⟨⟨_, _⟩, ⟨_, _⟩⟩ := p
   obtain ⟨⟨_, _⟩, ⟨_, _⟩⟩ := q
   obtain ⟨_, _⟩ := z
   repeat' ((conv => whnf); first | with_reducible refine ag.data ?_ | refine cx.ia (ps := [(10, 5), (10, 6), (10, 7), (10, 8), (10, 9)]) rfl (by kernel_rfl) ?_ rfl | with_reducible refine Br.bt fun _ => ?_ | refine aa.mk _ _ (s2) ?_ | refine Cd.mk (ba xs _ (by omega)) ?_ | ((with_reducible show TkE (List.drop _ (List.flatMap Nd.cells _)) _ _ _); refine TkE.mk _ ((cg xs vs.length hlt).trans (congrArg Nd.cells hxx)) rfl ?_) | ((with_reducible show TkE (fa qc vs) (0 + Int.toNat a * _) _ _); refine TkE.mk _ L1 rfl ?_) | ((with_reducible show TkE (fa qc vs) _ _ _); refine TkE.mk _ L2 rfl ?_) | refine Cd.mk (du xx _) ?_ | refine Cd.mk (di rfl) ?_ | refine DsE.mk [_, _, _, _, _, _, _, _, _, _, _, _] rfl ?_ | ((with_reducible show DsE (fa qc vs) _); refine DsE.mk (vs.flatMap qc) rfl ?_) | ((with_reducible show EqE (fa qc vs ++ _) _); refine EqE.mk _ (aag vs ((r1, r2), (r3, r4))) ?_) | refine an.go _ _ ⟨.inl rfl, rfl, rfl, az _ _ _ _ _ _ rfl⟩ ?_ | refine aa.mk _ _ (m1) ?_ | refine aa.mk _ _ (m2) ?_ | refine aa.mk _ _ (sZ) ?_ | refine rgE ?_ | refine Cd.mk rfl ?_ | refine Br.t ?_ | refine Br.f ?_ | refine ah.mk _ rfl ?_ | (refine TkE.fL ?_; (conv => whnf); fail_if_success (show ae _ _)) | refine b7.mk (by repeat first | exact True.intro | refine And.intro (by kernel_rfl) ?_) ?_ | ((with_reducible refine EqE.idW ?_); with_reducible refine EqE.mk _ (ax _ (by omega)) ?_) | ((with_reducible refine EqE.idS ?_); (refine EqE.fP ?_; (conv => whnf); fail_if_success (show ae _ _))) | refine Cd.ol ?_ | refine Cd.mk ⟨rfl, rfl⟩ ?_ | refine Cd.os ?_)
   exact ⟨_, ⟨vs.length + 1, vs ++ [_], rfl, by omega, by simp, hst, hfa, rfl, rfl⟩, by omega⟩
  ·obtain ⟨a0, a1⟩ := fa' (by omega)
   have b0 := gb (by omega)
   subst b0
   have L1 := ui (vs := vs) a0 (by omega)
   have L2 := ui (vs := vs) (a := 0) (by omega) (by rw [show (0 : Int).toNat = 0 from rfl]; omega)
   have hv : eu vs ⟨k, a, 0, n', ⟨b1, l1, e1, c1, k1, f1⟩⟩ z = none := by
    unfold eu jn; dsimp only
    rw [if_neg (by omega), if_neg (by omega), if_neg (by omega), if_neg (by omega), if_neg (by omega), if_neg (by omega), if_neg (by omega), if_neg (by omega), if_neg (by omega)]
   have hno := hstop (show sx vs _ z = none by unfold sx; rw [hv]; rfl)
   rw [hno]
   clear hpw hp9 hr9 hstep hstop hfadd hv fa' fb' ga gb f7 f2 s3 hz hzr
   generalize vs.getD a.toNat (ai, ai) = p at *
   generalize vs.getD (0 : Int).toNat (ai, ai) = q at *
   obtain ⟨⟨_, _⟩, ⟨_, _⟩⟩ := p
   obtain ⟨⟨_, _⟩, ⟨_, _⟩⟩ := q
   obtain ⟨_, _⟩ := z
   have kc : k = 8 ∨ k = 9 ∨ k = 10 := by omega
   clear kk1 kk10 k8
   rcases kc with rfl | rfl | rfl
   ·repeat' ((conv => whnf); first | refine cx.ia (ps := [(10, 5), (10, 6), (10, 7), (10, 8), (10, 9)]) rfl (by kernel_rfl) ?_ rfl | with_reducible refine Br.bt fun _ => ?_ | refine aa.mk _ _ (s2) ?_ | refine Cd.mk (ba xs _ (by omega)) ?_ | ((with_reducible show TkE (List.drop _ (List.flatMap Nd.cells _)) _ _ _); refine TkE.mk _ ((cg xs vs.length hlt).trans (congrArg Nd.cells hxx)) rfl ?_) | ((with_reducible show TkE (fa qc vs) (0 + Int.toNat a * _) _ _); refine TkE.mk _ L1 rfl ?_) | ((with_reducible show TkE (fa qc vs) _ _ _); refine TkE.mk _ L2 rfl ?_) | refine rgE ?_ | refine Cd.mk rfl ?_ | refine Br.t ?_ | refine Br.f ?_ | refine ah.mk _ rfl ?_ | (refine TkE.fL ?_; (conv => whnf); fail_if_success (show ae _ _)) | refine Res.mk ?_ | refine b7.mk (by repeat first | exact True.intro | refine And.intro (by kernel_rfl) ?_) ?_ | ((with_reducible refine EqE.idS ?_); (refine EqE.fP ?_; (conv => whnf); fail_if_success (show ae _ _))) | refine Cd.ol ?_ | refine Cd.os ?_)
    rfl
   ·repeat' ((conv => whnf); first | refine cx.ia (ps := [(10, 5), (10, 6), (10, 7), (10, 8), (10, 9)]) rfl (by kernel_rfl) ?_ rfl | with_reducible refine Br.bt fun _ => ?_ | refine aa.mk _ _ (s2) ?_ | refine Cd.mk (ba xs _ (by omega)) ?_ | ((with_reducible show TkE (List.drop _ (List.flatMap Nd.cells _)) _ _ _); refine TkE.mk _ ((cg xs vs.length hlt).trans (congrArg Nd.cells hxx)) rfl ?_) | ((with_reducible show TkE (fa qc vs) (0 + Int.toNat a * _) _ _); refine TkE.mk _ L1 rfl ?_) | ((with_reducible show TkE (fa qc vs) _ _ _); refine TkE.mk _ L2 rfl ?_) | refine rgE ?_ | refine Cd.mk rfl ?_ | refine Br.t ?_ | refine Br.f ?_ | refine ah.mk _ rfl ?_ | (refine TkE.fL ?_; (conv => whnf); fail_if_success (show ae _ _)) | refine Res.mk ?_ | refine b7.mk (by repeat first | exact True.intro | refine And.intro (by kernel_rfl) ?_) ?_ | ((with_reducible refine EqE.idS ?_); (refine EqE.fP ?_; (conv => whnf); fail_if_success (show ae _ _))) | refine Cd.ol ?_ | refine Cd.os ?_)
    rfl
   ·repeat' ((conv => whnf); first | refine cx.ia (ps := [(10, 5), (10, 6), (10, 7), (10, 8), (10, 9)]) rfl (by kernel_rfl) ?_ rfl | with_reducible refine Br.bt fun _ => ?_ | refine aa.mk _ _ (s2) ?_ | refine Cd.mk (ba xs _ (by omega)) ?_ | ((with_reducible show TkE (List.drop _ (List.flatMap Nd.cells _)) _ _ _); refine TkE.mk _ ((cg xs vs.length hlt).trans (congrArg Nd.cells hxx)) rfl ?_) | ((with_reducible show TkE (fa qc vs) (0 + Int.toNat a * _) _ _); refine TkE.mk _ L1 rfl ?_) | ((with_reducible show TkE (fa qc vs) _ _ _); refine TkE.mk _ L2 rfl ?_) | refine rgE ?_ | refine Cd.mk rfl ?_ | refine Br.t ?_ | refine Br.f ?_ | refine ah.mk _ rfl ?_ | (refine TkE.fL ?_; (conv => whnf); fail_if_success (show ae _ _)) | refine Res.mk ?_ | refine b7.mk (by repeat first | exact True.intro | refine And.intro (by kernel_rfl) ?_) ?_ | ((with_reducible refine EqE.idS ?_); (refine EqE.fP ?_; (conv => whnf); fail_if_success (show ae _ _))) | refine Cd.ol ?_ | refine Cd.os ?_)
    rfl
 ·have hin : i = xs.length := by omega
  subst hin
  have T1 := ui (vs := vs) (a := ((xs.length - 1 : Nat) : Int)) (by omega) (by rw [Int.toNat_natCast]; omega)
  rw [Int.toNat_natCast] at T1
  rw [hex]
  have ek : a0a (some vs) = D.tup [rqD (vs.getD (vs.length - 1) (ai, ai)), .bool true] := rfl
  rw [hvl] at ek
  rw [ek]
  clear ek
  generalize vs.getD (xs.length - 1) (ai, ai) = p at *
  obtain ⟨⟨_, _⟩, ⟨_, _⟩⟩ := p
  repeat' ((conv => whnf); first | with_reducible refine Br.bf fun _ => ?_ | refine Cd.mk (show 0 ≤ (((xs.length - 1 : Nat) : Int)) ∧ (((xs.length - 1 : Nat) : Int)) < xs.length by omega) ?_ | ((with_reducible show TkE (fa qc vs) _ _ _); refine TkE.mk _ T1 rfl ?_) | refine rgE ?_ | refine Cd.mk rfl ?_ | (refine TkE.fL ?_; (conv => whnf); fail_if_success (show ae _ _)) | refine Res.mk ?_ | ((with_reducible refine EqE.idW ?_); refine EqE.mk ((xs.length - 1 : Nat) : Int) (by rw [aj (by omega) (by omega)]; omega) ?_) | ((with_reducible refine EqE.idS ?_); (refine EqE.fP ?_; (conv => whnf); fail_if_success (show ae _ _))) | refine Cd.ol ?_)
  rfl
end Go.Ev.Ar

namespace Go.Ev.Ar
open Go Go.Ev Go.Proofs
theorem yp {x : D} {p : Dyadic} (n : Int) (hx : DyR x p) (hp : Ht 25000 p) (hK : (min (max n 0) 64).toNat ≤ 2) : Sim Tryz.prog G0 false 229 [x, .int .i64 n] (dyD (p ^ (min (max n 0) 64).toNat)) := by
 have kx := hx
 obtain ⟨b, l, e, hl, h1, h2, _⟩ := hx
 generalize dof (zv b l) e = p at *
 refine ao af Tryz.func229 ?_
 repeat' ((conv => whnf); first | with_reducible refine ag.data ?_ | refine aa.mk _ _ (pe kx) ?_ | refine aa.mk _ _ (tj _ (by decide) (by decide)) ?_ | refine rgE ?_ | refine Cd.mk rfl ?_ | (refine TkE.fL ?_; (conv => whnf); fail_if_success (show ae _ _)) | ((with_reducible refine EqE.idI ?_); first | refine EqE.mk _ (max_eq _ _) ?_ | refine EqE.mk _ (min_eq _ _) ?_) | ((with_reducible refine EqE.idS ?_); (refine EqE.fP ?_; (conv => whnf); fail_if_success (show ae _ _))) | refine Cd.ol ?_)
 refine ⟨[], [2, 4, 5, 11, 12], [2, 4, 5], fun m ys h => ∃ (i : Nat), m = (min (max n 0) 64).toNat - i ∧ i ≤ (min (max n 0) 64).toNat ∧ ys = [.ptr 2 0, .ptr 4 0, .ptr 5 0, .d (.int .i64 (min (max n 0) 64)), .d (.int .i64 i)] ∧
  h = [(5, false, dyA (p ^ i)), (4, false, zeA), (2, false, dyA p)],
  ⟨_, _, _, ⟨.inl rfl, rfl, rfl, by first | rfl | (repeat first | exact all_nil _ | refine bm _ _ _ _ _ ?_)⟩, 0, rfl, by omega, rfl, ?_⟩, ?_⟩
 ·rw [Dyadic.pow_zero]; rfl
 rintro m ys h ⟨i, rfl, hi, rfl, rfl⟩
 obtain ⟨hp1, hp2, hp3⟩ := hp.parts
 by_cases hlt : i < (min (max n 0) 64).toNat
 ·have hpi := (hp.pow i).mono (show 25000 * i + 1 ≤ 60000 by omega)
  obtain ⟨hq1, hq2, hq3⟩ := hpi.parts
  have hz := hq1.mul hp1 (c := 2080002) (by decide)
  repeat' ((conv => whnf); first | with_reducible refine Br.bt fun _ => ?_ | refine aa.mk _ _ (aoh (.of (n := ak (p ^ i)) (hq1.mono (by decide))) (.of (n := ak p) (hp1.mono (by decide)))) ?_ | refine aa.mk _ _ (ko (.of (hz.mono (by decide))) (hz.mono (by decide)) (by omega) (by omega)) ?_ | refine rgE ?_ | refine Cd.mk rfl ?_ | refine ah.mk _ rfl ?_ | (refine TkE.fL ?_; (conv => whnf); fail_if_success (show ae _ _)) | refine an.cu _ _ ?_ | ((with_reducible refine EqE.idW ?_); first | with_reducible refine EqE.mk _ (ax _ (by omega)) ?_ | refine EqE.mk _ (aj (by omega) (by omega)) ?_) | ((with_reducible refine EqE.idS ?_); (refine EqE.fP ?_; (conv => whnf); fail_if_success (show ae _ _))) | refine Cd.ol ?_)
  refine ⟨_, ⟨i + 1, rfl, by omega, rfl, ?_⟩, by omega⟩
  have e : p ^ (i + 1) = dof (ak (p ^ i) * ak p) (av (p ^ i) + av p) := by rw [← o9, bu, bu, Dyadic.pow_succ]
  rw [e]; rfl
 ·have e : i = (min (max n 0) 64).toNat := by omega
  repeat' ((conv => whnf); first | with_reducible refine Br.bf fun _ => ?_ | refine rgE ?_ | refine Cd.mk rfl ?_ | (refine TkE.fL ?_; (conv => whnf); fail_if_success (show ae _ _)) | refine Res.mk ?_ | ((with_reducible refine EqE.idS ?_); (refine EqE.fP ?_; (conv => whnf); fail_if_success (show ae _ _))) | refine Cd.ol ?_)
  show dyD _ = dyD (p ^ i)
  rw [e]
theorem auk {x : D} {z r : Cq} (n : Int) (hx : CxR x z) (hz : Hc 25000 z) (hK : kb n ≤ 2) (h : g0 (rof z) n = r) : Sim Tryz.prog G0 false 206 [x, .int .i64 n] (cxD r) := by
 subst h
 have ho := lf z
 have hr := hz.rof
 have s := mu hx (hz.mono (by decide)) rfl
 generalize rof z = r at *
 have ab := ayh (.of (hr.mono (by decide))) (hr.mono (by decide)) rfl
 rw [c6 ho] at ab
 have ha := hr.wu
 have hn : (min (max n 0) 64).toNat = kb n := rfl
 have hc : min (max (min (max n 0) 64) 0) 64 = min (max n 0) 64 := by omega
 have ht : (min (max n 0) 64).tmod 2 = ((kb n % 2 : Nat) : Int) := by
  rw [Int.tmod_eq_emod_of_nonneg (by omega)]; unfold kb; omega
 unfold g0
 generalize wu r = a at *
 obtain ⟨p, q⟩ := r
 obtain ⟨p', q'⟩ := a
 have d1 := yp (p := p) (min (max n 0) 64) (.of (hr.1.mono (by decide))) hr.1 (by rw [hc]; exact hK)
 have d2 := yp (p := q) (min (max n 0) 64) (.of (hr.2.mono (by decide))) hr.2 (by rw [hc]; exact hK)
 have d3 := yp (p := p') (min (max n 0) 64) (.of (ha.1.mono (by decide))) ha.1 (by rw [hc]; exact hK)
 have d4 := yp (p := q') (min (max n 0) 64) (.of (ha.2.mono (by decide))) ha.2 (by rw [hc]; exact hK)
 rw [hc, hn] at d1 d2 d3 d4
 obtain ⟨_, _⟩ := hx
 refine ao af Tryz.func206 ?_
 by_cases hp : kb n % 2 = 0
 ·rw [if_pos hp]
  rw [hp] at ht
  repeat' ((conv => whnf); first | with_reducible refine ag.data ?_ | refine aa.mk _ _ (s) ?_ | refine aa.mk _ _ (ab) ?_ | refine aa.mk _ _ (d3) ?_ | refine aa.mk _ _ (d4) ?_ | refine rgE ?_ | refine Cd.mk rfl ?_ | refine Br.t ?_ | (refine TkE.fL ?_; (conv => whnf); fail_if_success (show ae _ _)) | refine Res.mk ?_ | ((with_reducible refine EqE.idM ?_); refine EqE.mk _ ht ?_) | ((with_reducible refine EqE.idI ?_); first | refine EqE.mk _ (max_eq _ _) ?_ | refine EqE.mk _ (min_eq _ _) ?_) | ((with_reducible refine EqE.idS ?_); (refine EqE.fP ?_; (conv => whnf); fail_if_success (show ae _ _))) | refine Cd.ol ?_ | refine Cd.os ?_)
  rfl
 ·rw [if_neg hp]
  have hp1 : kb n % 2 = 1 := by omega
  rw [hp1] at ht
  repeat' ((conv => whnf); first | with_reducible refine ag.data ?_ | refine aa.mk _ _ (s) ?_ | refine aa.mk _ _ (d1) ?_ | refine aa.mk _ _ (d2) ?_ | refine rgE ?_ | refine Cd.mk rfl ?_ | refine Br.f ?_ | (refine TkE.fL ?_; (conv => whnf); fail_if_success (show ae _ _)) | refine Res.mk ?_ | ((with_reducible refine EqE.idM ?_); refine EqE.mk _ ht ?_) | ((with_reducible refine EqE.idI ?_); first | refine EqE.mk _ (max_eq _ _) ?_ | refine EqE.mk _ (min_eq _ _) ?_) | ((with_reducible refine EqE.idS ?_); (refine EqE.fP ?_; (conv => whnf); fail_if_success (show ae _ _))) | refine Cd.ol ?_ | refine Cd.os ?_)
  rfl
theorem pz {x : D} {z r : Cq} (hx : CxR x z) (hz : Hc 25000 z) (h : g0 (rof z) 2 = r) : Sim Tryz.prog G0 false 180 [x] (cxD r) := by
 have s := auk 2 hx hz (by decide) h
 obtain ⟨_, _⟩ := hx
 refine ao af Tryz.func180 ?_
 repeat' ((conv => whnf); first | with_reducible refine ag.data ?_ | refine aa.mk _ _ (s) ?_ | refine rgE ?_ | refine Cd.mk rfl ?_ | (refine TkE.fL ?_; (conv => whnf); fail_if_success (show ae _ _)) | refine Res.mk ?_ | ((with_reducible refine EqE.idS ?_); (refine EqE.fP ?_; (conv => whnf); fail_if_success (show ae _ _))) | refine Cd.ol ?_)
 rfl
theorem ala {x : D} {z r : Rq} (hx : RcR x z.1 z.2) (hz : Hr 20400 z) (h : rsq (fv z) = r) : Sim Tryz.prog G0 false 135 [x] (rqD r) := by
 subst h
 obtain ⟨a, b⟩ := z
 obtain ⟨h1, h2⟩ := hx
 have g1 := pz h1 (hz.1.mono (by decide)) rfl
 have g2 := pz h2 (hz.2.mono (by decide)) rfl
 have k1 : Hc 40801 (g0 (rof a) 2) := hz.1.rof.g0 2 adq (by decide)
 have k2 : Hc 40801 (g0 (rof b) 2) := hz.2.rof.g0 2 adq (by decide)
 have m := q9 (r := b8 (rof a) (rof b)) h1 h2 (hz.1.mono (by decide)) (hz.2.mono (by decide)) (by rw [qv, at2])
 have km : Hc 40800 (b8 (rof a) (rof b)) := hz.1.rof.b8 hz.2.rof (by decide)
 have t := aqm (.of (km.mono (by decide))) (km.mono (by decide)) (aw5 (iz _ _))
 have s := ab4 (r := wv (g0 (rof a) 2) (g0 (rof b) 2)) (.of (k1.mono (by decide))) (.of (k2.mono (by decide))) (k1.mono (by decide)) (k2.mono (by decide)) (by rw [c6 (oj 2 (lf a)), c6 (oj 2 (lf b))])
 unfold rsq fv; dsimp only
 generalize wv (g0 (rof a) 2) (g0 (rof b) 2) = S at *
 generalize js (b8 (rof a) (rof b)) (b8 (rof a) (rof b)) = T at *
 generalize g0 (rof a) 2 = P1 at *
 generalize g0 (rof b) 2 = P2 at *
 generalize b8 (rof a) (rof b) = M at *
 obtain ⟨_, _⟩ := P1
 obtain ⟨_, _⟩ := P2
 obtain ⟨_, _⟩ := M
 obtain ⟨_, _⟩ := S
 obtain ⟨_, _⟩ := T
 refine ao af Tryz.func135 ?_
 repeat' ((conv => whnf); first | refine aa.mk _ _ (g1) ?_ | refine aa.mk _ _ (g2) ?_ | refine aa.mk _ _ (s) ?_ | refine aa.mk _ _ (m) ?_ | refine aa.mk _ _ (t) ?_ | refine rgE ?_ | refine Cd.mk rfl ?_ | (refine TkE.fL ?_; (conv => whnf); fail_if_success (show ae _ _)) | refine Res.mk ?_ | ((with_reducible refine EqE.idS ?_); (refine EqE.fP ?_; (conv => whnf); fail_if_success (show ae _ _))) | refine Cd.ol ?_)
 rfl
theorem aql {x : D} {z : Rq} {r : Cq} (hx : RcR x z.1 z.2) (hz : Hr 20400 z) (h : o6 (fv z) = r) : Sim Tryz.prog G0 false 221 [x] (cxD r) := by
 subst h
 obtain ⟨a, b⟩ := z
 obtain ⟨h1, h2⟩ := hx
 have g1 := pz h1 (hz.1.mono (by decide)) rfl
 have g2 := pz h2 (hz.2.mono (by decide)) rfl
 have k1 : Hc 40801 (g0 (rof a) 2) := hz.1.rof.g0 2 adq (by decide)
 have k2 : Hc 40801 (g0 (rof b) 2) := hz.2.rof.g0 2 adq (by decide)
 have s := x5 (r := js (g0 (rof a) 2) (g0 (rof b) 2)) (.of (k1.mono (by decide))) (.of (k2.mono (by decide))) (k1.mono (by decide)) (k2.mono (by decide)) (by rw [c6 (oj 2 (lf a)), c6 (oj 2 (lf b))])
 unfold o6 fv; dsimp only
 generalize js (g0 (rof a) 2) (g0 (rof b) 2) = S at *
 generalize g0 (rof a) 2 = P1 at *
 generalize g0 (rof b) 2 = P2 at *
 obtain ⟨_, _⟩ := P1
 obtain ⟨_, _⟩ := P2
 obtain ⟨_, _⟩ := S
 refine ao af Tryz.func221 ?_
 repeat' ((conv => whnf); first | refine aa.mk _ _ (g1) ?_ | refine aa.mk _ _ (g2) ?_ | refine aa.mk _ _ (s) ?_ | refine rgE ?_ | refine Cd.mk rfl ?_ | (refine TkE.fL ?_; (conv => whnf); fail_if_success (show ae _ _)) | refine Res.mk ?_ | ((with_reducible refine EqE.idS ?_); (refine EqE.fP ?_; (conv => whnf); fail_if_success (show ae _ _))) | refine Cd.ol ?_)
 rfl
theorem ade {x y : D} {z w r : Cq} {c : Int} (p : Int) (hx : CxR x z) (hy : CxR y w) (hz : Hc 20400 z) (hw : Hc 41000 w) (h : o4 (rof z) (rof w) p = (r, c)) : Sim Tryz.prog G0 false 130 [x, y, .int .i64 p] (.tup [cxD r, .int .i64 c]) := by
 unfold o4 at h
 by_cases c0 : m7 (rof w) 0
 ·rw [if_pos c0] at h; cases h
  have i := anm (r := (0, 0)) (c := 11) p hy (hw.mono (by decide)) (by unfold arv; rw [if_pos c0])
  obtain ⟨_, _⟩ := hx
  obtain ⟨_, _⟩ := hy
  refine ao af Tryz.func130 ?_
  repeat' ((conv => whnf); first | with_reducible refine ag.data ?_ | refine aa.mk _ _ (i) ?_ | refine rgE ?_ | refine Cd.mk rfl ?_ | refine Br.t ?_ | refine ah.mk _ rfl ?_ | (refine TkE.fL ?_; (conv => whnf); fail_if_success (show ae _ _)) | refine Res.mk ?_ | ((with_reducible refine EqE.idS ?_); (refine EqE.fP ?_; (conv => whnf); fail_if_success (show ae _ _))) | refine Cd.ol ?_)
  show _ = D.tup [D.agg [.bool false, sl [], .int .i64 0, .bool false, sl [], .int .i64 0], _]
  rw [od]; rfl
 ·rw [if_neg c0] at h; cases h
  have ho := lf w
  have i := anm (r := uc (rof w) p) (c := 0) p hy (hw.mono (by decide)) (by unfold arv; rw [if_neg c0])
  have hi : Hc 49004 (uc (rof w) p) := (hw.rof.uc (K := 4000) (by omega)).mono (by decide)
  have m := q9 hx (.of (hi.mono (by decide))) (hz.mono (by decide)) (hi.mono (by decide)) rfl
  rw [qv]
  have hm : Hc 69404 (b8 z (uc (rof w) p)) := hz.b8 hi (by decide)
  have ro := iz z (uc (rof w) p)
  generalize b8 z (uc (rof w) p) = M at *
  have d := aal p (.of (hm.mono (by decide))) (hm.mono (by decide)) rfl
  rw [c6 ro] at d
  generalize uc (rof w) p = I at *
  obtain ⟨_, _⟩ := I
  obtain ⟨_, _⟩ := M
  obtain ⟨_, _⟩ := hx
  obtain ⟨_, _⟩ := hy
  refine ao af Tryz.func130 ?_
  repeat' ((conv => whnf); first | with_reducible refine ag.data ?_ | refine aa.mk _ _ (i) ?_ | refine aa.mk _ _ (m) ?_ | refine aa.mk _ _ (d) ?_ | refine rgE ?_ | refine Cd.mk rfl ?_ | refine Br.f ?_ | refine ah.mk _ rfl ?_ | (refine TkE.fL ?_; (conv => whnf); fail_if_success (show ae _ _)) | refine Res.mk ?_ | ((with_reducible refine EqE.idS ?_); (refine EqE.fP ?_; (conv => whnf); fail_if_success (show ae _ _))) | refine Cd.ol ?_)
  rfl
theorem auv {x : D} {z r : Rq} {c : Int} (p : Int) (hx : RcR x z.1 z.2) (hz : Hr 20400 z) (h : x4 (fv z) p = (r, c)) : Sim Tryz.prog G0 false 198 [x, .int .i64 p] (.tup [rqD r, .int .i64 c]) := by
 have s := aql hx (hz.mono (by decide)) rfl
 have hN : Hc 40802 (o6 (fv z)) := hz.fv.o6 (by decide)
 have oN := aun (anq z)
 unfold x4 at h
 generalize o6 (fv z) = N at *
 obtain ⟨a, b⟩ := z
 obtain ⟨h1, h2⟩ := hx
 have kN := CxR.of (hN.mono (show 40802 ≤ 1048576 by decide))
 have eN := c6 oN
 by_cases c0 : m7 N 0
 ·rw [if_pos c0] at h; cases h
  have d := ade (r := (0, 0)) (c := 11) p h1 kN (hz.1.mono (by decide)) (hN.mono (by decide)) (by rw [eN]; unfold o4; rw [if_pos c0])
  obtain ⟨_, _⟩ := N
  refine ao af Tryz.func198 ?_
  repeat' ((conv => whnf); first | with_reducible refine ag.data ?_ | refine aa.mk _ _ (s) ?_ | refine aa.mk _ _ (d) ?_ | refine rgE ?_ | refine Cd.mk rfl ?_ | refine Br.t ?_ | refine ah.mk _ rfl ?_ | (refine TkE.fL ?_; (conv => whnf); fail_if_success (show ae _ _)) | refine Res.mk ?_ | ((with_reducible refine EqE.idS ?_); (refine EqE.fP ?_; (conv => whnf); fail_if_success (show ae _ _))) | refine Cd.ol ?_)
  show _ = D.tup [D.agg [.bool false, sl [], .int .i64 0, .bool false, sl [], .int .i64 0, .bool false, sl [], .int .i64 0, .bool false, sl [], .int .i64 0], _]
  rw [anv]; rfl
 ·rw [if_neg c0] at h; cases h
  have d := ade (r := (o4 (rof a) N p).1) (c := 0) p h1 kN (hz.1.mono (by decide)) (hN.mono (by decide)) (by rw [eN]; unfold o4; rw [if_neg c0])
  have g := ag7 h2 (hz.2.mono (by decide)) rfl
  have hg : Hc 20400 (nm (rof b)) := hz.2.rof.nm
  have d2 := ade (r := (o4 (nm (rof b)) N p).1) (c := 0) p (.of (hg.mono (by decide))) kN (hg.mono (by decide)) (hN.mono (by decide)) (by rw [eN, c6 (aga (lf b))]; unfold o4; rw [if_neg c0])
  unfold fv; dsimp only
  generalize (o4 (rof a) N p).1 = R1 at *
  generalize (o4 (nm (rof b)) N p).1 = R2 at *
  generalize nm (rof b) = B at *
  obtain ⟨_, _⟩ := N
  obtain ⟨_, _⟩ := R1
  obtain ⟨_, _⟩ := R2
  obtain ⟨_, _⟩ := B
  refine ao af Tryz.func198 ?_
  repeat' ((conv => whnf); first | with_reducible refine ag.data ?_ | refine aa.mk _ _ (s) ?_ | refine aa.mk _ _ (d) ?_ | refine aa.mk _ _ (g) ?_ | refine aa.mk _ _ (d2) ?_ | refine rgE ?_ | refine Cd.mk rfl ?_ | refine Br.f ?_ | refine ah.mk _ rfl ?_ | (refine TkE.fL ?_; (conv => whnf); fail_if_success (show ae _ _)) | refine Res.mk ?_ | ((with_reducible refine EqE.idS ?_); (refine EqE.fP ?_; (conv => whnf); fail_if_success (show ae _ _))) | refine Cd.ol ?_)
  rfl
theorem aut {x y : D} {z w r : Rq} {c : Int} (p : Int) (hx : RcR x z.1 z.2) (hy : RcR y w.1 w.2) (hz : Hr 20400 z) (hw : Hr 20400 w) (h : o5 (fv z) (fv w) p = (r, c)) : Sim Tryz.prog G0 false 161 [x, y, .int .i64 p] (.tup [rqD r, .int .i64 c]) := by
 obtain ⟨⟨I, i⟩, hI⟩ : ∃ I, x4 (fv w) p = I := ⟨_, rfl⟩
 have s := auv p hy hw hI
 have hIt : Hr 77208 I := by
  have k := hw.fv.x4 (p := p) (K := 4000) (by omega)
  rw [hI] at k; exact k.mono (by decide)
 have hc := a1l (fv w) p
 unfold o5 at h
 rw [hI] at h hc
 dsimp only at h hc
 by_cases c0 : m7 (o6 (fv w)) 0
 ·rw [if_pos c0] at h hc; cases h
  subst hc
  obtain ⟨⟨_, _⟩, ⟨_, _⟩⟩ := I
  obtain ⟨a, b⟩ := z
  obtain ⟨a', b'⟩ := w
  obtain ⟨_, _⟩ := hx
  obtain ⟨_, _⟩ := hy
  refine ao af Tryz.func161 ?_
  repeat' ((conv => whnf); first | with_reducible refine ag.data ?_ | refine aa.mk _ _ (s) ?_ | refine rgE ?_ | refine Cd.mk rfl ?_ | refine Br.t ?_ | refine ah.mk _ rfl ?_ | (refine TkE.fL ?_; (conv => whnf); fail_if_success (show ae _ _)) | refine Res.mk ?_ | ((with_reducible refine EqE.idS ?_); (refine EqE.fP ?_; (conv => whnf); fail_if_success (show ae _ _))) | refine Cd.ol ?_)
  show _ = D.tup [D.agg [.bool false, sl [], .int .i64 0, .bool false, sl [], .int .i64 0, .bool false, sl [], .int .i64 0, .bool false, sl [], .int .i64 0], _]
  rw [anv]; rfl
 ·rw [if_neg c0] at h hc; cases h
  subst hc
  have m := ahb hx (RqR.of (hIt.mono (by decide))) (hz.mono (by decide)) (hIt.mono (by decide)) rfl
  rw [aqe]
  have hM : Hr 97609 (iw z I) := hz.iw hIt (by decide)
  have oM := ra z I
  generalize iw z I = M at *
  have d := aan p (RqR.of (hM.mono (by decide))) (hM.mono (by decide)) rfl
  rw [jf oM] at d
  obtain ⟨⟨_, _⟩, ⟨_, _⟩⟩ := I
  obtain ⟨⟨_, _⟩, ⟨_, _⟩⟩ := M
  obtain ⟨a, b⟩ := z
  obtain ⟨a', b'⟩ := w
  obtain ⟨_, _⟩ := hx
  obtain ⟨_, _⟩ := hy
  refine ao af Tryz.func161 ?_
  repeat' ((conv => whnf); first | with_reducible refine ag.data ?_ | refine aa.mk _ _ (s) ?_ | refine aa.mk _ _ (m) ?_ | refine aa.mk _ _ (d) ?_ | refine rgE ?_ | refine Cd.mk rfl ?_ | refine Br.f ?_ | refine ah.mk _ rfl ?_ | (refine TkE.fL ?_; (conv => whnf); fail_if_success (show ae _ _)) | refine Res.mk ?_ | ((with_reducible refine EqE.idS ?_); (refine EqE.fP ?_; (conv => whnf); fail_if_success (show ae _ _))) | refine Cd.ol ?_)
  rfl
end Go.Ev.Ar

namespace Go.Ev.Ar
open Go Go.Ev Go.Proofs
def dOk (p : Dyadic) : Bool := kq (a7 (ak p)) (ofN (ak p).natAbs) (av p)
def okR (z : Rq) : Bool := dOk z.1.1 && dOk z.1.2 && dOk z.2.1 && dOk z.2.2
theorem ara {p : Dyadic} (hp : Ht 1000000 p) : Sim Tryz.prog G0 true 158 [dyD p] (.bool (dOk p)) :=
 aen _ _ _ (Nat.lt_of_le_of_lt (hp.parts.1.len (k := 65536) (by decide)) (by decide))
set_option maxHeartbeats 1000000 in
theorem alk {z : Rq} {t : Bool} (hz : Hr 1000000 z) (ht : okR z = t) : Sim Tryz.prog G0 true 104 [rqD z] (.bool t) := by
 have d1 := ara hz.1.1
 have d2 := ara hz.1.2
 have d3 := ara hz.2.1
 have d4 := ara hz.2.2
 subst ht
 unfold okR
 generalize dOk z.1.1 = t1 at *
 generalize dOk z.1.2 = t2 at *
 generalize dOk z.2.1 = t3 at *
 generalize dOk z.2.2 = t4 at *
 obtain ⟨⟨_, _⟩, ⟨_, _⟩⟩ := z
 refine ao af Tryz.func104 ?_
 repeat' ((conv => whnf); first | with_reducible refine ag.data ?_ | refine aa.mk _ _ (d1) ?_ | refine aa.mk _ _ (d2) ?_ | refine aa.mk _ _ (d3) ?_ | refine aa.mk _ _ (d4) ?_ | refine rgE ?_ | refine Cd.mk rfl ?_ | refine Br.t ?_ | refine Br.f ?_ | refine Br.mk (fun _ => ?_) (fun _ => ?_) | (refine TkE.fL ?_; (conv => whnf); fail_if_success (show ae _ _)) | refine Res.mk ?_)
 all_goals
  show D.bool _ = D.bool _
  refine congrArg D.bool ?_
  clear d1 d2 d3 d4 hz
  grind
end Go.Ev.Ar

namespace Go.Ev.Ar
open Go Go.Ev Go.Proofs
structure Bx (z : Cq) (m w : Rat) : Prop where
 lo : -m ≤ z.1.toRat
 hi : z.2.toRat ≤ m
 ord : z.1.toRat ≤ z.2.toRat
 wd : z.2.toRat - z.1.toRat ≤ w
theorem Bx.mono {z : Cq} {m w k v : Rat} (h : Bx z m w) (h1 : m ≤ k) (h2 : w ≤ v) : Bx z k v := by
 obtain ⟨a, b, c, d⟩ := h
 exact ⟨by grind, by grind, c, by grind⟩
theorem Bx.m0 {z : Cq} {m w : Rat} (h : Bx z m w) : 0 ≤ m ∧ 0 ≤ w := by
 obtain ⟨a, b, c, d⟩ := h
 exact ⟨by grind, by grind⟩
theorem Bx.add {z w : Cq} {m k a b : Rat} (h : Bx z m a) (g : Bx w k b) : Bx (js z w) (m + k) (a + b) := by
 obtain ⟨h1, h2, h3, h4⟩ := h
 obtain ⟨g1, g2, g3, g4⟩ := g
 refine ⟨?_, ?_, ?_, ?_⟩ <;> unfold js <;> dsimp only <;> (try rw [zu]) <;> (try rw [zu]) <;> grind
theorem Bx.sq {z : Cq} {m a : Rat} (h : Bx z m a) : Bx (g0 z 2) (m * m) (2 * m * a) := by
 have m0 := h.m0
 obtain ⟨h1, h2, h3, h4⟩ := h
 have ho : Ord z := wx.1 h3
 rw [aw6, aer ho]
 have fin : ∀ p q : Rat, 0 ≤ p → p ≤ q → q ≤ m → q - p ≤ a → -(m * m) ≤ p * p ∧ q * q ≤ m * m ∧ p * p ≤ q * q ∧ q * q - p * p ≤ 2 * m * a := by
  intro p q p0 pq qm d
  have s1 := za p0 p0
  have s2 := ak2 p0 pq p0 pq
  have s3 := ak2 (show 0 ≤ q by grind) qm (show 0 ≤ q by grind) qm
  have s4 := ak2 (show 0 ≤ q - p by grind) d (show 0 ≤ q + p by grind) (show q + p ≤ 2 * m by grind)
  grind
 split
 ·rename_i g
  have g := wx.2 g
  rw [fq] at g
  obtain ⟨f1, f2, f3, f4⟩ := fin _ _ g h3 h2 h4
  exact ⟨by dsimp only; rw [eo]; exact f1, by dsimp only; rw [eo]; exact f2, by dsimp only; rw [eo, eo]; exact f3, by dsimp only; rw [eo, eo]; exact f4⟩
 ·split
  ·rename_i g
   have g := wx.2 g
   rw [fq] at g
   obtain ⟨f1, f2, f3, f4⟩ := fin (-z.2.toRat) (-z.1.toRat) (by grind) (by grind) (by grind) (by grind)
   exact ⟨by unfold nm; dsimp only; rw [eo, uh]; exact f1, by unfold nm; dsimp only; rw [eo, uh]; exact f2, by unfold nm; dsimp only; rw [eo, eo, uh, uh]; exact f3, by unfold nm; dsimp only; rw [eo, eo, uh, uh]; exact f4⟩
  ·rename_i g k
   have g : ¬ 0 ≤ z.1.toRat := fun x => g (by rw [← fq] at x; exact wx.1 x)
   have k : ¬ z.2.toRat ≤ 0 := fun x => k (by rw [← fq] at x; exact wx.1 x)
   obtain ⟨f1, f2, f3, f4⟩ := fin 0 (qmx (-z.1.toRat) z.2.toRat) Rat.le_refl (by unfold qmx; grind) (by unfold qmx; grind) (by unfold qmx; grind)
   exact ⟨by dsimp only; rw [eo, fq]; exact f1, by dsimp only; rw [eo, a31, uh]; exact f2, by dsimp only; rw [eo, eo, a31, uh, fq]; exact f3, by dsimp only; rw [eo, eo, a31, uh, fq]; exact f4⟩
def ep (p : Int) : Rat := (dof 1 (1 - min (max p 1) 4000)).toRat
theorem a22 (p : Int) : 0 < ep p := by
 have := ti (1 - min (max p 1) 4000)
 unfold ep; rw [← fq]; exact Dyadic.toRat_lt_toRat_iff.2 this
theorem a4z (p : Int) : ep p ≤ 1 := by
 unfold ep
 rw [← ai0, show (1 : Dyadic) = dof 1 0 by decide]
 exact wx.2 (ard.2 (by omega))
theorem a5d (p q : Dyadic) : (p - q).toRat = p.toRat - q.toRat := by rw [show p - q = p + -q by grind, zu, uh]; grind
theorem Bx.pt {q : Dyadic} {m : Rat} (h : qab q.toRat ≤ m) : Bx (q, q) m 0 := by
 have := ap6.1 h
 exact ⟨this.1, this.2, Rat.le_refl, by dsimp only; grind⟩
theorem Bx.inv {j : Nat} (p : Int) (hj : 0 < j) : Bx (uc (dof j 0, dof j 0) p) 2 (ep p) := by
 have hp := awg hj
 have one0 : (1 : Dyadic) ≠ 0 := by decide
 have q0 : nt 1 (dof j 0) p 0 = q8 1 (dof j 0) p 0 := xy p 0 one0 hp
 have q1 : nt 1 (dof j 0) p 1 = q8 1 (dof j 0) p 1 := xy p 1 one0 hp
 have s0 := (uj (x := 1) (y := dof j 0) p 0 one_pos).1 hp
 have l0 := (a1i (x := 1) (y := dof j 0) p).1 hp
 have hd : q8 1 (dof j 0) p 0 ≤ q8 1 (dof j 0) p 1 ∧ q8 1 (dof j 0) p 1 - q8 1 (dof j 0) p 0 ≤ dof 1 (iu 1 (dof j 0) p) := by
  have := ti (iu 1 (dof j 0) p)
  unfold q8
  rw [if_neg (fun h => absurd h.1 (by decide))]
  split
  ·rw [xg]; grind
  ·grind
 have ht := (ai2 (x := 1) (y := dof j 0) one0 (by grind)).1
 rw [show gz (1 : Dyadic) = 1 by decide, show gz (dof (j : Int) 0) = dof j 0 by rw [jm, if_neg (by grind)]] at ht
 have ht := wx.2 ht
 rw [eo, aep, ai0] at ht
 have j1 : (1 : Rat) ≤ ((j : Nat) : Rat) := by exact_mod_cast hj
 have t0 : 0 ≤ (dof 1 (wy 1 (dof j 0))).toRat := by rw [← fq]; exact wx.2 (by have := ti (wy 1 (dof j 0)); grind)
 have t1 := Rat.mul_le_mul_of_nonneg_right j1 t0
 have e : dof 1 (iu 1 (dof j 0) p) = dof 1 (wy 1 (dof j 0)) * dof 1 (1 - min (max p 1) 4000) := by rw [afr]; congr 1; unfold iu; omega
 have u : (dof 1 (iu 1 (dof j 0) p)).toRat ≤ ep p := by
  rw [e, eo]
  have := Rat.mul_le_mul_of_nonneg_right (show (dof 1 (wy 1 (dof j 0))).toRat ≤ 1 by grind) (Rat.le_of_lt (a22 p))
  show _ * ep p ≤ ep p
  grind
 have l1 := wx.2 l0
 rw [eo, aep, ai0] at l1
 have z0 : 0 ≤ (nt 1 (dof j 0) p 0).toRat := by rw [← fq]; exact wx.2 (by grind)
 have l2 := Rat.mul_le_mul_of_nonneg_right j1 z0
 have d1 := wx.2 hd.1
 have d2 := wx.2 hd.2
 rw [a5d] at d2
 have el := a4z p
 rw [← q0, ← q1] at d1 d2
 have e1 : (uc (dof j 0, dof j 0) p).1 = nt 1 (dof j 0) p 0 := rfl
 have e2 : (uc (dof j 0, dof j 0) p).2 = nt 1 (dof j 0) p 1 := rfl
 exact ⟨by rw [e1]; grind, by rw [e2]; grind, by rw [e1, e2]; grind, by rw [e1, e2]; grind⟩
end Go.Ev.Ar

namespace Go.Ev.Ar
open Go Go.Ev Go.Proofs
theorem a4i : Bx unR.1 2 0 ∧ Bx unR.2 2 0 := ⟨Bx.pt (by rw [ai0, aya (by decide)]; grind), Bx.pt (by rw [fq, ang]; grind)⟩
theorem a14 (m w : Rat) (hm : 0 ≤ m) (hw : 0 ≤ w) : Bx ((0, 0) : Cq) m w := (Bx.pt (m := 0) (by rw [fq, ang]; grind)).mono hm hw
def yR (x : Dyadic) (im : Bool) (wp : Int) : Rq := if im then ((0, 0), kd (x, x) wp) else (kd (x, x) wp, (0, 0))
end Go.Ev.Ar

namespace Go.Ev.Ar
open Go Go.Ev Go.Proofs
def Nz (m : Nat) (q : Dyadic) : Prop := q.toRat = 0 ∨ pq (1 / 2) m ≤ qab q.toRat
theorem atv {m n : Nat} (h : m ≤ n) : pq (1 / 2) n ≤ pq (1 / 2) m := by
 obtain ⟨d, rfl⟩ : ∃ d, n = m + d := ⟨n - m, by omega⟩
 rw [ax9]
 have p0 := aso (show (0 : Rat) ≤ 1 / 2 by grind) m
 have p1 : pq (1 / 2) d ≤ 1 := by
  have := ars d
  have hk : (0 : Rat) ≤ ((d : Nat) : Rat) := by exact_mod_cast Nat.zero_le d
  have := za hk (aso (show (0 : Rat) ≤ 1 / 2 by grind) d)
  grind
 have := Rat.mul_le_mul_of_nonneg_left p1 p0
 grind
theorem Nz.mono {m n : Nat} {q : Dyadic} (h : Nz m q) (k : m ≤ n) : Nz n q := by
 rcases h with h | h
 ·exact .inl h
 ·exact .inr (Rat.le_trans (atv k) h)
def Nz2 (m : Nat) (z : Cq) : Prop := Nz m z.1 ∧ Nz m z.2
theorem Nz2.mono {m n : Nat} {z : Cq} (h : Nz2 m z) (k : m ≤ n) : Nz2 n z := ⟨h.1.mono k, h.2.mono k⟩
theorem Bx.qab {z : Cq} {m w : Rat} (h : Bx z m w) : Ev.qab z.1.toRat ≤ m ∧ Ev.qab z.2.toRat ≤ m := by
 obtain ⟨a, b, c, d⟩ := h
 exact ⟨ap6.2 ⟨by grind, by grind⟩, ap6.2 ⟨by grind, by grind⟩⟩
end Go.Ev.Ar

namespace Go.Ev.Ar
open Go Go.Ev Go.Proofs
structure Hz (im : Bool) (out : Rq) (w : Rat) : Prop where
 c1 : 31 / 32 ≤ out.1.1.toRat
 c2 : out.1.2.toRat ≤ 33 / 32
 b1 : Bx out.1 2 w
 b2 : Bx out.2 (1 / 32) w
 h1 : Hc 2400 out.1
 n2 : Nz2 1030 out.2
 h2 : Hc 1400 out.2
 z2 : im = false → out.2 = (0, 0)
theorem Hz.one (im : Bool) {w : Rat} (hw : 0 ≤ w) : Hz im unR w := ⟨by show _ ≤ (1 : Dyadic).toRat; rw [ai0]; grind, by show (1 : Dyadic).toRat ≤ _; rw [ai0]; grind, a4i.1.mono Rat.le_refl hw, a14 _ _ (by grind) hw, ⟨Ht.one.mono (by decide), Ht.one.mono (by decide)⟩, ⟨.inl fq, .inl fq⟩, ⟨.zero _, .zero _⟩, fun _ => rfl⟩
end Go.Ev.Ar

namespace Go.Ev.Ar
open Go Go.Ev Go.Proofs
inductive DyS : D → Dyadic → Prop where
 | mk {b : Bool} {l : List UInt32} {e : Int} (hl : l.length ≤ 1000) (h1 : -20000 ≤ e) (h2 : e ≤ 20000) (hr : DyR (.agg [.bool b, sl l, .int .i64 e]) (dof (zv b l) e)) : DyS (.agg [.bool b, sl l, .int .i64 e]) (dof (zv b l) e)
theorem DyS.r {x : D} {q : Dyadic} (h : DyS x q) : DyR x q := by obtain ⟨_, _, _, hr⟩ := h; exact hr
def ay1 (q : Dyadic) : Bool := decide (-1000 ≤ av q) && decide (gz q ≤ dof 64 0)
end Go.Ev.Ar

namespace Go.Ev.Ar
open Go Go.Ev Go.Proofs
inductive CxS : D → Cq → Prop where
 | mk {b : Bool} {l : List UInt32} {e : Int} {c : Bool} {k : List UInt32} {f : Int} {p q : Dyadic} (hp : DyS (.agg [.bool b, sl l, .int .i64 e]) p) (hq : DyS (.agg [.bool c, sl k, .int .i64 f]) q) :
  CxS (.agg [.bool b, sl l, .int .i64 e, .bool c, sl k, .int .i64 f]) (p, q)
theorem CxS.r {x : D} {z : Cq} (h : CxS x z) : CxR x z := by obtain ⟨a, b⟩ := h; exact .mk a.r b.r
def trR (q : Dyadic) (P : Int) : Rq := trn (yR (q * dof 1 (-16)) false P) false P
def ao2 (z : Cq) (p : Int) : Cq := kd ((trR z.1 (min (max p 2) 200 + 80)).1.1, (trR z.2 (min (max p 2) 200 + 80)).1.2) (min (max p 2) 200 + 10)
attribute [irreducible] trR
end Go.Ev.Ar

namespace Go.Ev.Ar
open Go Go.Ev Go.Proofs
def a2l (y : Cq) (r : Dyadic) (p : Int) : Cq := kd (a43 (js y (-r, r)) (-1, 1)).1 p
end Go.Ev.Ar

namespace Go.Ev.Ar
open Go Go.Ev Go.Proofs
def a0s (z : Cq) (P : Int) : Dyadic := rto ((z.1 + z.2) * dof 1 (-1)) P 2
def a5e (z : Cq) (P : Int) : Dyadic := mx (z.2 - a0s z P) (a0s z P - z.1)
end Go.Ev.Ar

namespace Go.Ev.Ar
open Go Go.Ev Go.Proofs
def trI (q : Dyadic) (P : Int) : Rq := trn (yR (q * dof 1 (-16)) true P) true P
attribute [irreducible] trI
def afn (z : Cq) (p : Int) : Rq :=
  (a2l (trI (a0s z (min (max p 2) 200 + 80)) (min (max p 2) 200 + 80)).1 (a5e z (min (max p 2) 200 + 80)) (min (max p 2) 200 + 10),
   a2l (trI (a0s z (min (max p 2) 200 + 80)) (min (max p 2) 200 + 80)).2 (a5e z (min (max p 2) 200 + 80)) (min (max p 2) 200 + 10))
end Go.Ev.Ar
