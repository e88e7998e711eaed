/- Contracts of the given functions, on data. Conditions stand in each theorem. -/
import Derived.Test.YtagjickjfjgfpaaGreatDoorGEvR
import Derived.Test.YtagjickjfjgfpaaGreatDoorGAvVg
import Derived.Test.YtagjickjfjgfpaaGreatDoorGEvEc
set_option linter.unusedSimpArgs false
set_option linter.unusedVariables false
namespace Go.Ev.Ar
open Go Go.Ev Go.Proofs
theorem asn {p q : Rq} (hp : p.2 ≠ (0, 0)) (hq : q.2 ≠ (0, 0)) : (acr p q).2 ≠ (0, 0) := kt hp hq
theorem awq {p q : Rq} (hp : p.2 ≠ (0, 0)) (hq : q.2 ≠ (0, 0)) : (ah5 p q).2 ≠ (0, 0) := kt hp hq
theorem pn {l : List D} (h : l.all (fun c => (A.d c).one) = true) : ∀ c ∈ l, (A.d c).one = true := List.all_eq_true.1 h
set_option maxRecDepth 10000 in
set_option maxHeartbeats 16000000 in
theorem agc {xs : List Nd} {rz : RC} {z : Cq} (hn : xs.length < 2^62) (hl : ∀ x ∈ xs, x.r.l.length ≤ 4194304 ∧ x.r.k.length ≤ 4194304) (hzr : CxF (.agg rz.cells) z) (hcz : ∀ i, i < xs.length → CxF (.agg (xs.getD i Nd.nil).r.cells) (xs.getD i Nd.nil).r.val) (hz : Hc 104 z) (hc : ∀ i, i < xs.length → Hc 104 (xs.getD i Nd.nil).r.val) (hx : gu xs = true) (hb : ∀ i, i < xs.length → ik (szL xs i) (xs.getD i Nd.nil) i ≤ 60) :
  Sim Tryz.prog G0 false 48 [nsl xs, .agg rz.cells] (arq (qk xs z xs.length)) := by
 have s0 := yv xs hn hl
 rw [hx] at s0
 unfold gu at hx
 simp only [Bool.and_eq_true, decide_eq_true_eq, List.all_eq_true, List.mem_range] at hx
 obtain ⟨⟨n0, n40⟩, hall⟩ := hx
 have s1 : Sim Tryz.prog G0 false 42 [.int .i64 1, .int .i64 0] (cxD ag) := abk 1 0 (by decide) (by decide) (by decide) (by decide)
 have s2 := ua hzr
 obtain ⟨bz, lz, ez, cz', kz, fz⟩ := rz
 refine an (hs := (aps _)) af Tryz.func48 ?_
 repeat' ((conv => whnf); first | with_reducible refine ah.data ?_ | refine aa.mk _ _ (s0) ?_ | refine aa.mk _ _ (s1) ?_ | refine rgE ?_ | refine Cd.mk rfl ?_ | refine Br.f ?_ | ((with_reducible refine EqE.idS ?_); (refine EqE.fP ?_; (conv => whnf); fail_if_success (show ae _ _))) | refine Cd.ol ?_)
 refine ⟨[(7, 500, 12)], [0, 3, 4, 6, 7, 8], [3, 4, 6, 500], fun m ys h => ∃ (i : Nat) (vs : List Rq), m = xs.length - i ∧ i ≤ xs.length ∧ vs.length = i ∧ qk xs z i = some vs ∧ Fit (szL xs i) vs ∧
   ys = [.d (nsl xs), .ptr 3 0, .ptr 4 0, .ptr 6 0, .own 500 0 i 12, .d (.int .i64 i)] ∧
   h = [(500, false, fa qc vs), (6, false, dyC 1 ++ dyC 0), (4, false, zeA ++ zeA ++ (zeA ++ zeA)), (3, false, [.d (.bool bz), .d (sl lz), .d (.int .i64 ez), .d (.bool cz'), .d (sl kz), .d (.int .i64 fz)])],
  ⟨rfl, rfl, ⟨Nat.le_of_ble_eq_true rfl, Nat.le_of_ble_eq_true rfl⟩, _, _, _, ⟨.inl rfl, rfl, rfl, rfl⟩, 0, [], rfl, by omega, rfl, rfl, Fit.nil, rfl, rfl⟩, ?_⟩
 rintro m ys h ⟨i, vs, rfl, hi, hvl, hex, hfit, rfl, rfl⟩
 by_cases hlt : i < xs.length
 ·subst hvl
  have hx' := hall _ hlt
  have hcx := hc _ hlt
  have hsz := hb _ hlt
  have hvr := fun r h => ahr (r := r) hfit hx' hz hcx hsz h
  have fx := j7 hx'
  have s3 := ua (hcz _ hlt)
  have hstep := fun (r : Rq) hv hr => arp (r := r) hex rfl hv hr
  have hstop := fun hv => ayg (n := xs.length) hex rfl hv hlt
  have hfadd := fun (r : Rq) hv (hr : r.2 ≠ (0, 0)) => hfit.add ⟨(hvr r hv).1, hsz⟩ (hvr r hv).2 hr
  have hszl : szL xs (vs.length + 1) = szL xs vs.length ++ [ik (szL xs vs.length) (xs.getD vs.length Nd.nil) vs.length] := rfl
  rw [← hszl] at hfadd
  have h66 : (ik (szL xs vs.length) (xs.getD vs.length Nd.nil) vs.length).toNat ≤ 60 := by omega
  have hr9 : ∀ r, bx vs (xs.getD vs.length Nd.nil) z = some r → Hr 9000 r := fun r hv => Hr.mono (hvr r hv).2 (by omega)
  have hp9 : ∀ j, j < vs.length → Hr 9000 (vs.getD j (ag, ag)) := fun j hj => Hr.mono (hfit.v j hj) (by have := hfit.s1 j hj; omega)
  have hpw : ∀ a : Int, 0 ≤ a → a.toNat < vs.length → (xs.getD vs.length Nd.nil).k = 7 → (xs.getD vs.length Nd.nil).a = a → ∀ j : Nat, j ≤ (xs.getD vs.length Nd.nil).n.toNat → Hr 9000 (qw (vs.getD a.toNat (ag, ag)) j) := fun a ha0 ha1 hk ha j hj => by
   have sa := hfit.s1 a.toNat ha1
   have va := hfit.v a.toNat ha1
   have f7 := fx.2.2.2.2.2.2.1 hk
   unfold ik at hsz
   rw [if_pos ⟨hk, gg.2 (by rw [ha]; omega)⟩, ha] at hsz
   generalize (szL xs vs.length).getD a.toNat 0 = s at *
   obtain ⟨s, rfl⟩ := Int.eq_ofNat_of_zero_le (show 0 ≤ s by omega)
   obtain ⟨N, hN⟩ := Int.eq_ofNat_of_zero_le f7.1
   rw [hN] at hsz hj f7
   rw [Int.toNat_natCast] at va hj
   rw [show (max 1 (min (N : Int) 64) : Int) = ((max 1 N : Nat) : Int) by omega, ← Int.natCast_mul] at hsz
   have g : s * j ≤ s * max 1 N := Nat.mul_le_mul_left s (by omega)
   refine Hr.mono (aej va j) ?_
   have : (110 * s + 1) * j + 1 = 110 * (s * j) + j + 1 := by rw [Nat.add_mul, Nat.one_mul, Nat.mul_assoc]
   omega
  clear hvr hc hb hall hsz h66 hcx hcz
  generalize hxx : xs.getD vs.length Nd.nil = x at *
  obtain ⟨k, a, b, n', ⟨b1, l1, e1, c1, k1, f1⟩⟩ := x
  obtain ⟨kk1, kk10, fa', fb', ga, gb, f7, f2⟩ := fx
  dsimp only at kk1 kk10 fa' fb' ga gb f7 f2 hpw
  have kc : k = 1 ∨ k = 2 ∨ k = 3 ∨ k = 4 ∨ k = 5 ∨ k = 6 ∨ k = 7 ∨ (8 ≤ k ∧ k ≤ 10) := by omega
  rcases kc with rfl | rfl | rfl | rfl | rfl | rfl | rfl | k8
  ·have a0 := ga (by omega)
   have b0 := gb (by omega)
   subst a0 b0
   have hv : bx vs ⟨1, 0, 0, n', ⟨b1, l1, e1, c1, k1, f1⟩⟩ z = some (z, ag) := rfl
   have hst := hstep _ hv ob
   have hfa := hfadd _ hv ob
   have sZ := eu (t := false) (a := ag) (pj 50000 (by decide)) (by decide)
   clear hr9 hp9 hpw hstep hfadd hstop hv fa' fb' ga gb f7 f2 hz hzr
   clear s3
   obtain ⟨z1, z2⟩ := z
   repeat' ((conv => whnf); first | with_reducible refine ah.data ?_ | with_reducible refine Br.bt fun _ => ?_ | refine aa.mk _ _ (s2) ?_ | refine Cd.mk (bj xs _ (by omega)) ?_ | ((with_reducible show TkE (List.drop _ (List.flatMap Nd.cells _)) _ _ _); refine TkE.mk _ ((di xs vs.length hlt).trans (congrArg Nd.cells hxx)) rfl ?_) | refine Cd.mk (nn xo _) ?_ | refine Cd.mk (pn rfl) ?_ | refine DsE.mk [_, _, _, _, _, _, _, _, _, _, _, _] rfl ?_ | ((with_reducible show DsE (fa qc vs) _); refine DsE.mk (vs.flatMap qc) rfl ?_) | ((with_reducible show EqE (fa qc vs ++ _) _); refine EqE.mk _ (zu vs ((z1, z2), ag)) ?_) | refine ao.go _ _ ⟨.inl rfl, rfl, rfl, az _ _ _ _ _ _ rfl⟩ ?_ | refine aa.mk _ _ (sZ) ?_ | refine rgE ?_ | refine Cd.mk rfl ?_ | refine Br.t ?_ | refine Br.f ?_ | refine ai.mk _ rfl ?_ | (refine TkE.fL ?_; (conv => whnf); fail_if_success (show ae _ _)) | ((with_reducible refine EqE.idW ?_); with_reducible refine EqE.mk _ (a5 _ (by omega)) ?_) | ((with_reducible refine EqE.idS ?_); (refine EqE.fP ?_; (conv => whnf); fail_if_success (show ae _ _))) | refine Cd.ol ?_ | refine Cd.mk ⟨rfl, rfl⟩ ?_ | refine Cd.os ?_)
   exact ⟨_, ⟨vs.length + 1, vs ++ [_], rfl, by omega, by simp, hst, hfa, rfl, rfl⟩, by omega⟩
  ·have a0 := ga (by omega)
   have b0 := gb (by omega)
   subst a0 b0
   have hv : bx vs ⟨2, 0, 0, n', ⟨b1, l1, e1, c1, k1, f1⟩⟩ z = some ((⟨b1, l1, e1, c1, k1, f1⟩ : RC).val, ag) := rfl
   have hst := hstep _ hv ob
   have hfa := hfadd _ hv ob
   have sZ := eu (t := false) (a := ag) (pj 50000 (by decide)) (by decide)
   clear hr9 hp9 hpw hstep hfadd hstop hv fa' fb' ga gb f7 f2 hz hzr
   generalize (⟨b1, l1, e1, c1, k1, f1⟩ : RC).val = u at *
   obtain ⟨u1, u2⟩ := u
   obtain ⟨z1, z2⟩ := z
   repeat' ((conv => whnf); first | with_reducible refine ah.data ?_ | with_reducible refine Br.bt fun _ => ?_ | refine aa.mk _ _ (s2) ?_ | refine Cd.mk (bj xs _ (by omega)) ?_ | ((with_reducible show TkE (List.drop _ (List.flatMap Nd.cells _)) _ _ _); refine TkE.mk _ ((di xs vs.length hlt).trans (congrArg Nd.cells hxx)) rfl ?_) | refine Cd.mk (nn xo _) ?_ | refine Cd.mk (pn rfl) ?_ | refine DsE.mk [_, _, _, _, _, _, _, _, _, _, _, _] rfl ?_ | ((with_reducible show DsE (fa qc vs) _); refine DsE.mk (vs.flatMap qc) rfl ?_) | ((with_reducible show EqE (fa qc vs ++ _) _); refine EqE.mk _ (zu vs ((u1, u2), ag)) ?_) | refine ao.go _ _ ⟨.inl rfl, rfl, rfl, az _ _ _ _ _ _ rfl⟩ ?_ | refine aa.mk _ _ (s3) ?_ | refine aa.mk _ _ (sZ) ?_ | refine rgE ?_ | refine Cd.mk rfl ?_ | refine Br.t ?_ | refine Br.f ?_ | refine ai.mk _ rfl ?_ | (refine TkE.fL ?_; (conv => whnf); fail_if_success (show ae _ _)) | ((with_reducible refine EqE.idW ?_); with_reducible refine EqE.mk _ (a5 _ (by omega)) ?_) | ((with_reducible refine EqE.idS ?_); (refine EqE.fP ?_; (conv => whnf); fail_if_success (show ae _ _))) | refine Cd.ol ?_ | refine Cd.mk ⟨rfl, rfl⟩ ?_ | refine Cd.os ?_)
   exact ⟨_, ⟨vs.length + 1, vs ++ [_], rfl, by omega, by simp, hst, hfa, rfl, rfl⟩, by omega⟩
  ·obtain ⟨a0, a1⟩ := fa' (by omega)
   obtain ⟨b0, b1'⟩ := fb' (by omega)
   have L1 := tr (vs := vs) a0 (by omega)
   have L2 := tr (vs := vs) b0 (by omega)
   have pa := hp9 a.toNat (by omega)
   have pb := hp9 b.toNat (by omega)
   have na := hfit.nz a.toNat (by omega)
   have nb' := hfit.nz b.toNat (by omega)
   have hv : bx vs ⟨3, a, b, n', ⟨b1, l1, e1, c1, k1, f1⟩⟩ z = some (acr (vs.getD a.toNat (ag, ag)) (vs.getD b.toNat (ag, ag))) := rfl
   clear hpw hp9 s3
   generalize vs.getD a.toNat (ag, ag) = p at *
   generalize vs.getD b.toNat (ag, ag) = q at *
   obtain ⟨r, hr⟩ : ∃ r, acr p q = r := ⟨_, rfl⟩
   rw [hr] at hv
   have h9 := hr9 _ hv
   have er1 := congrArg Prod.fst hr
   have er2 := congrArg Prod.snd hr
   have ne : r.2 ≠ (0, 0) := hr ▸ asn na nb'
   have m1 := jt (pa.1.mono (show 9000 ≤ 20000 by decide)) (pb.2.mono (show 9000 ≤ 20000 by decide)) rfl
   have m2 := jt (pb.1.mono (show 9000 ≤ 20000 by decide)) (pa.2.mono (show 9000 ≤ 20000 by decide)) rfl
   have m3 := jt (w := r.2) (pa.2.mono (show 9000 ≤ 20000 by decide)) (pb.2.mono (show 9000 ≤ 20000 by decide)) er2
   have h2 : Hc 18001 (aw p.1 q.2) := Hc.aw pa.1 pb.2 (by decide)
   have h3 : Hc 18001 (aw q.1 p.2) := Hc.aw pb.1 pa.2 (by decide)
   have m4 := aqv (w := r.1) (h2.mono (show 18001 ≤ 40000 by decide)) (h3.mono (show 18001 ≤ 40000 by decide)) er1
   clear er1 er2 h2 h3
   have hst := hstep _ hv ne
   have hfa := hfadd _ hv ne
   have sZ := eu (t := false) (show Hc 50000 r.2 from h9.2.mono (by decide)) (decide_eq_false ne)
   clear pa pb na nb' hr hr9 hstep hstop hfadd hv fa' fb' ga gb f7 f2 hz hzr
   generalize aw p.1 q.2 = w1 at *
   generalize aw q.1 p.2 = w2 at *
   obtain ⟨_, _⟩ := w1
   obtain ⟨_, _⟩ := w2
   obtain ⟨⟨_, _⟩, ⟨_, _⟩⟩ := p
   obtain ⟨⟨_, _⟩, ⟨_, _⟩⟩ := q
   obtain ⟨⟨r1, r2⟩, ⟨r3, r4⟩⟩ := r
   obtain ⟨_, _⟩ := z
   repeat' ((conv => whnf); first | with_reducible refine ah.data ?_ | refine dk.ir (ps := [(10, 5), (10, 6), (10, 7), (10, 8), (10, 9)]) rfl (by kernel_rfl) ?_ rfl | with_reducible refine Br.bt fun _ => ?_ | refine aa.mk _ _ (s2) ?_ | refine Cd.mk (bj xs _ (by omega)) ?_ | ((with_reducible show TkE (List.drop _ (List.flatMap Nd.cells _)) _ _ _); refine TkE.mk _ ((di xs vs.length hlt).trans (congrArg Nd.cells hxx)) rfl ?_) | ((with_reducible show TkE (fa qc vs) (0 + Int.toNat a * _) _ _); refine TkE.mk _ L1 rfl ?_) | ((with_reducible show TkE (fa qc vs) (0 + Int.toNat b * _) _ _); refine TkE.mk _ L2 rfl ?_) | refine Cd.mk (nn xo _) ?_ | refine Cd.mk (pn rfl) ?_ | refine DsE.mk [_, _, _, _, _, _, _, _, _, _, _, _] rfl ?_ | ((with_reducible show DsE (fa qc vs) _); refine DsE.mk (vs.flatMap qc) rfl ?_) | ((with_reducible show EqE (fa qc vs ++ _) _); refine EqE.mk _ (zu vs ((r1, r2), (r3, r4))) ?_) | refine ao.go _ _ ⟨.inl rfl, rfl, rfl, az _ _ _ _ _ _ rfl⟩ ?_ | refine aa.mk _ _ (m1) ?_ | refine aa.mk _ _ (m2) ?_ | refine aa.mk _ _ (m3) ?_ | refine aa.mk _ _ (m4) ?_ | refine aa.mk _ _ (sZ) ?_ | refine rgE ?_ | refine Cd.mk rfl ?_ | refine Br.t ?_ | refine Br.f ?_ | refine ai.mk _ rfl ?_ | (refine TkE.fL ?_; (conv => whnf); fail_if_success (show ae _ _)) | refine b8.mk (by repeat first | exact True.intro | refine And.intro (by kernel_rfl) ?_) ?_ | ((with_reducible refine EqE.idW ?_); with_reducible refine EqE.mk _ (a5 _ (by omega)) ?_) | ((with_reducible refine EqE.idS ?_); (refine EqE.fP ?_; (conv => whnf); fail_if_success (show ae _ _))) | refine Cd.ol ?_ | refine Cd.mk ⟨rfl, rfl⟩ ?_ | refine Cd.os ?_)
   exact ⟨_, ⟨vs.length + 1, vs ++ [_], rfl, by omega, by simp, hst, hfa, rfl, rfl⟩, by omega⟩
  ·obtain ⟨a0, a1⟩ := fa' (by omega)
   obtain ⟨b0, b1'⟩ := fb' (by omega)
   have L1 := tr (vs := vs) a0 (by omega)
   have L2 := tr (vs := vs) b0 (by omega)
   have pa := hp9 a.toNat (by omega)
   have pb := hp9 b.toNat (by omega)
   have na := hfit.nz a.toNat (by omega)
   have nb' := hfit.nz b.toNat (by omega)
   have hv : bx vs ⟨4, a, b, n', ⟨b1, l1, e1, c1, k1, f1⟩⟩ z = some (ah5 (vs.getD a.toNat (ag, ag)) (vs.getD b.toNat (ag, ag))) := rfl
   clear hpw hp9 s3
   generalize vs.getD a.toNat (ag, ag) = p at *
   generalize vs.getD b.toNat (ag, ag) = q at *
   obtain ⟨r, hr⟩ : ∃ r, ah5 p q = r := ⟨_, rfl⟩
   rw [hr] at hv
   have h9 := hr9 _ hv
   have er1 := congrArg Prod.fst hr
   have er2 := congrArg Prod.snd hr
   have ne : r.2 ≠ (0, 0) := hr ▸ awq na nb'
   have m1 := jt (pa.1.mono (show 9000 ≤ 20000 by decide)) (pb.2.mono (show 9000 ≤ 20000 by decide)) rfl
   have m2 := jt (pb.1.mono (show 9000 ≤ 20000 by decide)) (pa.2.mono (show 9000 ≤ 20000 by decide)) rfl
   have m3 := jt (w := r.2) (pa.2.mono (show 9000 ≤ 20000 by decide)) (pb.2.mono (show 9000 ≤ 20000 by decide)) er2
   have h2 : Hc 18001 (aw p.1 q.2) := Hc.aw pa.1 pb.2 (by decide)
   have h3 : Hc 18001 (aw q.1 p.2) := Hc.aw pb.1 pa.2 (by decide)
   have m4 := azu (w := r.1) (h2.mono (show 18001 ≤ 40000 by decide)) (h3.mono (show 18001 ≤ 40000 by decide)) er1
   clear er1 er2 h2 h3
   have hst := hstep _ hv ne
   have hfa := hfadd _ hv ne
   have sZ := eu (t := false) (show Hc 50000 r.2 from h9.2.mono (by decide)) (decide_eq_false ne)
   clear pa pb na nb' hr hr9 hstep hstop hfadd hv fa' fb' ga gb f7 f2 hz hzr
   generalize aw p.1 q.2 = w1 at *
   generalize aw q.1 p.2 = w2 at *
   obtain ⟨_, _⟩ := w1
   obtain ⟨_, _⟩ := w2
   obtain ⟨⟨_, _⟩, ⟨_, _⟩⟩ := p
   obtain ⟨⟨_, _⟩, ⟨_, _⟩⟩ := q
   obtain ⟨⟨r1, r2⟩, ⟨r3, r4⟩⟩ := r
   obtain ⟨_, _⟩ := z
   repeat' ((conv => whnf); first | with_reducible refine ah.data ?_ | refine dk.ir (ps := [(10, 5), (10, 6), (10, 7), (10, 8), (10, 9)]) rfl (by kernel_rfl) ?_ rfl | with_reducible refine Br.bt fun _ => ?_ | refine aa.mk _ _ (s2) ?_ | refine Cd.mk (bj xs _ (by omega)) ?_ | ((with_reducible show TkE (List.drop _ (List.flatMap Nd.cells _)) _ _ _); refine TkE.mk _ ((di xs vs.length hlt).trans (congrArg Nd.cells hxx)) rfl ?_) | ((with_reducible show TkE (fa qc vs) (0 + Int.toNat a * _) _ _); refine TkE.mk _ L1 rfl ?_) | ((with_reducible show TkE (fa qc vs) (0 + Int.toNat b * _) _ _); refine TkE.mk _ L2 rfl ?_) | refine Cd.mk (nn xo _) ?_ | refine Cd.mk (pn rfl) ?_ | refine DsE.mk [_, _, _, _, _, _, _, _, _, _, _, _] rfl ?_ | ((with_reducible show DsE (fa qc vs) _); refine DsE.mk (vs.flatMap qc) rfl ?_) | ((with_reducible show EqE (fa qc vs ++ _) _); refine EqE.mk _ (zu vs ((r1, r2), (r3, r4))) ?_) | refine ao.go _ _ ⟨.inl rfl, rfl, rfl, az _ _ _ _ _ _ rfl⟩ ?_ | refine aa.mk _ _ (m1) ?_ | refine aa.mk _ _ (m2) ?_ | refine aa.mk _ _ (m3) ?_ | refine aa.mk _ _ (m4) ?_ | refine aa.mk _ _ (sZ) ?_ | refine rgE ?_ | refine Cd.mk rfl ?_ | refine Br.t ?_ | refine Br.f ?_ | refine ai.mk _ rfl ?_ | (refine TkE.fL ?_; (conv => whnf); fail_if_success (show ae _ _)) | refine b8.mk (by repeat first | exact True.intro | refine And.intro (by kernel_rfl) ?_) ?_ | ((with_reducible refine EqE.idW ?_); with_reducible refine EqE.mk _ (a5 _ (by omega)) ?_) | ((with_reducible refine EqE.idS ?_); (refine EqE.fP ?_; (conv => whnf); fail_if_success (show ae _ _))) | refine Cd.ol ?_ | refine Cd.mk ⟨rfl, rfl⟩ ?_ | refine Cd.os ?_)
   exact ⟨_, ⟨vs.length + 1, vs ++ [_], rfl, by omega, by simp, hst, hfa, rfl, rfl⟩, by omega⟩
  ·obtain ⟨a0, a1⟩ := fa' (by omega)
   obtain ⟨b0, b1'⟩ := fb' (by omega)
   have L1 := tr (vs := vs) a0 (by omega)
   have L2 := tr (vs := vs) b0 (by omega)
   have pa := hp9 a.toNat (by omega)
   have pb := hp9 b.toNat (by omega)
   have na := hfit.nz a.toNat (by omega)
   have nb' := hfit.nz b.toNat (by omega)
   have hv : bx vs ⟨5, a, b, n', ⟨b1, l1, e1, c1, k1, f1⟩⟩ z = some (df (vs.getD a.toNat (ag, ag)) (vs.getD b.toNat (ag, ag))) := rfl
   clear hpw hp9 s3
   generalize vs.getD a.toNat (ag, ag) = p at *
   generalize vs.getD b.toNat (ag, ag) = q at *
   obtain ⟨r, hr⟩ : ∃ r, df p q = r := ⟨_, rfl⟩
   rw [hr] at hv
   have h9 := hr9 _ hv
   have er1 := congrArg Prod.fst hr
   have er2 := congrArg Prod.snd hr
   have ne : r.2 ≠ (0, 0) := hr ▸ kt na nb'
   have m1 := jt (w := r.1) (pa.1.mono (show 9000 ≤ 20000 by decide)) (pb.1.mono (show 9000 ≤ 20000 by decide)) er1
   have m2 := jt (w := r.2) (pa.2.mono (show 9000 ≤ 20000 by decide)) (pb.2.mono (show 9000 ≤ 20000 by decide)) er2
   clear er1 er2
   have hst := hstep _ hv ne
   have hfa := hfadd _ hv ne
   have sZ := eu (t := false) (show Hc 50000 r.2 from h9.2.mono (by decide)) (decide_eq_false ne)
   clear pa pb na nb' hr hr9 hstep hstop hfadd hv fa' fb' ga gb f7 f2 hz hzr
   obtain ⟨⟨_, _⟩, ⟨_, _⟩⟩ := p
   obtain ⟨⟨_, _⟩, ⟨_, _⟩⟩ := q
   obtain ⟨⟨r1, r2⟩, ⟨r3, r4⟩⟩ := r
   obtain ⟨_, _⟩ := z
   repeat' ((conv => whnf); first | with_reducible refine ah.data ?_ | refine dk.ir (ps := [(10, 5), (10, 6), (10, 7), (10, 8), (10, 9)]) rfl (by kernel_rfl) ?_ rfl | with_reducible refine Br.bt fun _ => ?_ | refine aa.mk _ _ (s2) ?_ | refine Cd.mk (bj xs _ (by omega)) ?_ | ((with_reducible show TkE (List.drop _ (List.flatMap Nd.cells _)) _ _ _); refine TkE.mk _ ((di xs vs.length hlt).trans (congrArg Nd.cells hxx)) rfl ?_) | ((with_reducible show TkE (fa qc vs) (0 + Int.toNat a * _) _ _); refine TkE.mk _ L1 rfl ?_) | ((with_reducible show TkE (fa qc vs) (0 + Int.toNat b * _) _ _); refine TkE.mk _ L2 rfl ?_) | refine Cd.mk (nn xo _) ?_ | refine Cd.mk (pn rfl) ?_ | refine DsE.mk [_, _, _, _, _, _, _, _, _, _, _, _] rfl ?_ | ((with_reducible show DsE (fa qc vs) _); refine DsE.mk (vs.flatMap qc) rfl ?_) | ((with_reducible show EqE (fa qc vs ++ _) _); refine EqE.mk _ (zu vs ((r1, r2), (r3, r4))) ?_) | refine ao.go _ _ ⟨.inl rfl, rfl, rfl, az _ _ _ _ _ _ rfl⟩ ?_ | refine aa.mk _ _ (m1) ?_ | refine aa.mk _ _ (m2) ?_ | refine aa.mk _ _ (sZ) ?_ | refine rgE ?_ | refine Cd.mk rfl ?_ | refine Br.t ?_ | refine Br.f ?_ | refine ai.mk _ rfl ?_ | (refine TkE.fL ?_; (conv => whnf); fail_if_success (show ae _ _)) | refine b8.mk (by repeat first | exact True.intro | refine And.intro (by kernel_rfl) ?_) ?_ | ((with_reducible refine EqE.idW ?_); with_reducible refine EqE.mk _ (a5 _ (by omega)) ?_) | ((with_reducible refine EqE.idS ?_); (refine EqE.fP ?_; (conv => whnf); fail_if_success (show ae _ _))) | refine Cd.ol ?_ | refine Cd.mk ⟨rfl, rfl⟩ ?_ | refine Cd.os ?_)
   exact ⟨_, ⟨vs.length + 1, vs ++ [_], rfl, by omega, by simp, hst, hfa, rfl, rfl⟩, by omega⟩
  ·obtain ⟨a0, a1⟩ := fa' (by omega)
   obtain ⟨b0, b1'⟩ := fb' (by omega)
   have L1 := tr (vs := vs) a0 (by omega)
   have L2 := tr (vs := vs) b0 (by omega)
   have pa := hp9 a.toNat (by omega)
   have pb := hp9 b.toNat (by omega)
   have na := hfit.nz a.toNat (by omega)
   have nb' := hfit.nz b.toNat (by omega)
   have hv : bx vs ⟨6, a, b, n', ⟨b1, l1, e1, c1, k1, f1⟩⟩ z = some (df (vs.getD a.toNat (ag, ag)) ((vs.getD b.toNat (ag, ag)).2, (vs.getD b.toNat (ag, ag)).1)) := rfl
   clear hpw hp9 s3
   generalize vs.getD a.toNat (ag, ag) = p at *
   generalize vs.getD b.toNat (ag, ag) = q at *
   obtain ⟨r, hr⟩ : ∃ r, df p (q.2, q.1) = r := ⟨_, rfl⟩
   rw [hr] at hv
   have h9 := hr9 _ hv
   have er1 := congrArg Prod.fst hr
   have er2 := congrArg Prod.snd hr
   have m1 := jt (w := r.1) (pa.1.mono (show 9000 ≤ 20000 by decide)) (pb.2.mono (show 9000 ≤ 20000 by decide)) er1
   have m2 := jt (w := r.2) (pa.2.mono (show 9000 ≤ 20000 by decide)) (pb.1.mono (show 9000 ≤ 20000 by decide)) er2
   clear er1 er2
   by_cases ne : r.2 = (0, 0)
   ·have sZ := eu (t := true) (show Hc 50000 r.2 from h9.2.mono (by decide)) (decide_eq_true ne)
    have hno := hstop (show eb vs _ z = none by unfold eb; rw [hv]; show (if r.2 = (0, 0) then none else some r) = none; rw [if_pos ne])
    rw [hno]
    clear pa pb na nb' hr hr9 hstep hstop hfadd hv fa' fb' ga gb f7 f2 hz hzr
    obtain ⟨⟨_, _⟩, ⟨_, _⟩⟩ := p
    obtain ⟨⟨_, _⟩, ⟨_, _⟩⟩ := q
    obtain ⟨⟨r1, r2⟩, ⟨r3, r4⟩⟩ := r
    obtain ⟨_, _⟩ := z
    repeat' ((conv => whnf); first | with_reducible refine ah.data ?_ | refine dk.ir (ps := [(10, 5), (10, 6), (10, 7), (10, 8), (10, 9)]) rfl (by kernel_rfl) ?_ rfl | with_reducible refine Br.bt fun _ => ?_ | refine aa.mk _ _ (s2) ?_ | refine Cd.mk (bj xs _ (by omega)) ?_ | ((with_reducible show TkE (List.drop _ (List.flatMap Nd.cells _)) _ _ _); refine TkE.mk _ ((di xs vs.length hlt).trans (congrArg Nd.cells hxx)) rfl ?_) | ((with_reducible show TkE (fa qc vs) (0 + Int.toNat a * _) _ _); refine TkE.mk _ L1 rfl ?_) | ((with_reducible show TkE (fa qc vs) (0 + Int.toNat b * _) _ _); refine TkE.mk _ L2 rfl ?_) | refine aa.mk _ _ (m1) ?_ | refine aa.mk _ _ (m2) ?_ | refine aa.mk _ _ (sZ) ?_ | refine rgE ?_ | refine Cd.mk rfl ?_ | refine Br.t ?_ | refine Br.f ?_ | refine ai.mk _ rfl ?_ | (refine TkE.fL ?_; (conv => whnf); fail_if_success (show ae _ _)) | refine Res.mk ?_ | refine b8.mk (by repeat first | exact True.intro | refine And.intro (by kernel_rfl) ?_) ?_ | ((with_reducible refine EqE.idS ?_); (refine EqE.fP ?_; (conv => whnf); fail_if_success (show ae _ _))) | refine Cd.ol ?_ | refine Cd.os ?_)
    rfl
   ·have hst := hstep _ hv ne
    have hfa := hfadd _ hv ne
    have sZ := eu (t := false) (show Hc 50000 r.2 from h9.2.mono (by decide)) (decide_eq_false ne)
    clear pa pb na nb' hr hr9 hstep hstop hfadd hv fa' fb' ga gb f7 f2 hz hzr
    obtain ⟨⟨_, _⟩, ⟨_, _⟩⟩ := p
    obtain ⟨⟨_, _⟩, ⟨_, _⟩⟩ := q
    obtain ⟨⟨r1, r2⟩, ⟨r3, r4⟩⟩ := r
    obtain ⟨_, _⟩ := z
    repeat' ((conv => whnf); first | with_reducible refine ah.data ?_ | refine dk.ir (ps := [(10, 5), (10, 6), (10, 7), (10, 8), (10, 9)]) rfl (by kernel_rfl) ?_ rfl | with_reducible refine Br.bt fun _ => ?_ | refine aa.mk _ _ (s2) ?_ | refine Cd.mk (bj xs _ (by omega)) ?_ | ((with_reducible show TkE (List.drop _ (List.flatMap Nd.cells _)) _ _ _); refine TkE.mk _ ((di xs vs.length hlt).trans (congrArg Nd.cells hxx)) rfl ?_) | ((with_reducible show TkE (fa qc vs) (0 + Int.toNat a * _) _ _); refine TkE.mk _ L1 rfl ?_) | ((with_reducible show TkE (fa qc vs) (0 + Int.toNat b * _) _ _); refine TkE.mk _ L2 rfl ?_) | refine Cd.mk (nn xo _) ?_ | refine Cd.mk (pn rfl) ?_ | refine DsE.mk [_, _, _, _, _, _, _, _, _, _, _, _] rfl ?_ | ((with_reducible show DsE (fa qc vs) _); refine DsE.mk (vs.flatMap qc) rfl ?_) | ((with_reducible show EqE (fa qc vs ++ _) _); refine EqE.mk _ (zu vs ((r1, r2), (r3, r4))) ?_) | refine ao.go _ _ ⟨.inl rfl, rfl, rfl, az _ _ _ _ _ _ rfl⟩ ?_ | refine aa.mk _ _ (m1) ?_ | refine aa.mk _ _ (m2) ?_ | refine aa.mk _ _ (sZ) ?_ | refine rgE ?_ | refine Cd.mk rfl ?_ | refine Br.t ?_ | refine Br.f ?_ | refine ai.mk _ rfl ?_ | (refine TkE.fL ?_; (conv => whnf); fail_if_success (show ae _ _)) | refine b8.mk (by repeat first | exact True.intro | refine And.intro (by kernel_rfl) ?_) ?_ | ((with_reducible refine EqE.idW ?_); with_reducible refine EqE.mk _ (a5 _ (by omega)) ?_) | ((with_reducible refine EqE.idS ?_); (refine EqE.fP ?_; (conv => whnf); fail_if_success (show ae _ _))) | refine Cd.ol ?_ | refine Cd.mk ⟨rfl, rfl⟩ ?_ | refine Cd.os ?_)
    exact ⟨_, ⟨vs.length + 1, vs ++ [_], rfl, by omega, by simp, hst, hfa, rfl, rfl⟩, by omega⟩
  ·obtain ⟨a0, a1⟩ := fa' (by omega)
   have b0 := gb (by omega)
   subst b0
   obtain ⟨n0', n64⟩ := f7 rfl
   obtain ⟨N, rfl⟩ := Int.eq_ofNat_of_zero_le n0'
   have L1 := tr (vs := vs) a0 (by omega)
   have L2 := tr (vs := vs) (a := 0) (by omega) (by rw [show (0 : Int).toNat = 0 from rfl]; omega)
   have pa := hp9 a.toNat (by omega)
   have na := hfit.nz a.toNat (by omega)
   have pw := hpw a a0 (by omega) rfl rfl
   rw [Int.toNat_natCast] at pw
   have hv : bx vs ⟨7, a, 0, (N : Int), ⟨b1, l1, e1, c1, k1, f1⟩⟩ z = some (qw (vs.getD a.toNat (ag, ag)) N) := rfl
   clear hpw hp9 s3
   generalize vs.getD a.toNat (ag, ag) = p at *
   generalize vs.getD (0 : Int).toNat (ag, ag) = q at *
   have ne := ajv na N
   have hst := hstep _ hv ne
   have hfa := hfadd _ hv ne
   have h9 := hr9 _ hv
   rw [abl] at hst hfa ne h9
   have m1 := aqw N (by omega) (pa.1.mono (show 9000 ≤ 20000 by decide)) (fun i hi => by have := pw i hi; rw [abl] at this; exact this.1.mono (by decide))
   have m2 := aqw N (by omega) (pa.2.mono (show 9000 ≤ 20000 by decide)) (fun i hi => by have := pw i hi; rw [abl] at this; exact this.2.mono (by decide))
   have sZ := eu (t := false) (show Hc 50000 (cpw p.2 N) from h9.2.mono (by decide)) (decide_eq_false ne)
   clear hr9 hstep hstop hfadd hv fa' ga gb f7 f2 na hz hzr pa pw h9 ne
   generalize cpw p.1 N = w1 at *
   generalize cpw p.2 N = w2 at *
   obtain ⟨r1, r2⟩ := w1
   obtain ⟨r3, r4⟩ := w2
   obtain ⟨⟨_, _⟩, ⟨_, _⟩⟩ := p
   obtain ⟨⟨_, _⟩, ⟨_, _⟩⟩ := q
   obtain ⟨_, _⟩ := z
   repeat' ((conv => whnf); first | with_reducible refine ah.data ?_ | refine dk.ir (ps := [(10, 5), (10, 6), (10, 7), (10, 8), (10, 9)]) rfl (by kernel_rfl) ?_ rfl | with_reducible refine Br.bt fun _ => ?_ | refine aa.mk _ _ (s2) ?_ | refine Cd.mk (bj xs _ (by omega)) ?_ | ((with_reducible show TkE (List.drop _ (List.flatMap Nd.cells _)) _ _ _); refine TkE.mk _ ((di xs vs.length hlt).trans (congrArg Nd.cells hxx)) rfl ?_) | ((with_reducible show TkE (fa qc vs) (0 + Int.toNat a * _) _ _); refine TkE.mk _ L1 rfl ?_) | ((with_reducible show TkE (fa qc vs) _ _ _); refine TkE.mk _ L2 rfl ?_) | refine Cd.mk (nn xo _) ?_ | refine Cd.mk (pn rfl) ?_ | refine DsE.mk [_, _, _, _, _, _, _, _, _, _, _, _] rfl ?_ | ((with_reducible show DsE (fa qc vs) _); refine DsE.mk (vs.flatMap qc) rfl ?_) | ((with_reducible show EqE (fa qc vs ++ _) _); refine EqE.mk _ (zu vs ((r1, r2), (r3, r4))) ?_) | refine ao.go _ _ ⟨.inl rfl, rfl, rfl, az _ _ _ _ _ _ rfl⟩ ?_ | refine aa.mk _ _ (m1) ?_ | refine aa.mk _ _ (m2) ?_ | refine aa.mk _ _ (sZ) ?_ | refine rgE ?_ | refine Cd.mk rfl ?_ | refine Br.t ?_ | refine Br.f ?_ | refine ai.mk _ rfl ?_ | (refine TkE.fL ?_; (conv => whnf); fail_if_success (show ae _ _)) | refine b8.mk (by repeat first | exact True.intro | refine And.intro (by kernel_rfl) ?_) ?_ | ((with_reducible refine EqE.idW ?_); with_reducible refine EqE.mk _ (a5 _ (by omega)) ?_) | ((with_reducible refine EqE.idS ?_); (refine EqE.fP ?_; (conv => whnf); fail_if_success (show ae _ _))) | refine Cd.ol ?_ | refine Cd.mk ⟨rfl, rfl⟩ ?_ | refine Cd.os ?_)
   exact ⟨_, ⟨vs.length + 1, vs ++ [_], rfl, by omega, by simp, hst, hfa, rfl, rfl⟩, by omega⟩
  ·obtain ⟨a0, a1⟩ := fa' (by omega)
   have b0 := gb (by omega)
   subst b0
   have L1 := tr (vs := vs) a0 (by omega)
   have L2 := tr (vs := vs) (a := 0) (by omega) (by rw [show (0 : Int).toNat = 0 from rfl]; omega)
   have hv : bx vs ⟨k, a, 0, n', ⟨b1, l1, e1, c1, k1, f1⟩⟩ z = none := by
    unfold bx b9; dsimp only
    rw [if_neg (by omega), if_neg (by omega), if_neg (by omega), if_neg (by omega), if_neg (by omega), if_neg (by omega), if_neg (by omega), if_neg (by omega), if_neg (by omega)]
   have hno := hstop (show eb vs _ z = none by unfold eb; rw [hv]; rfl)
   rw [hno]
   clear hpw hp9 hr9 hstep hstop hfadd hv fa' fb' ga gb f7 f2 s3 hz hzr
   generalize vs.getD a.toNat (ag, ag) = p at *
   generalize vs.getD (0 : Int).toNat (ag, ag) = q at *
   obtain ⟨⟨_, _⟩, ⟨_, _⟩⟩ := p
   obtain ⟨⟨_, _⟩, ⟨_, _⟩⟩ := q
   obtain ⟨_, _⟩ := z
   have kc : k = 8 ∨ k = 9 ∨ k = 10 := by omega
   clear kk1 kk10 k8
   rcases kc with rfl | rfl | rfl
   ·repeat' ((conv => whnf); first | refine dk.ir (ps := [(10, 5), (10, 6), (10, 7), (10, 8), (10, 9)]) rfl (by kernel_rfl) ?_ rfl | with_reducible refine Br.bt fun _ => ?_ | refine aa.mk _ _ (s2) ?_ | refine Cd.mk (bj xs _ (by omega)) ?_ | ((with_reducible show TkE (List.drop _ (List.flatMap Nd.cells _)) _ _ _); refine TkE.mk _ ((di xs vs.length hlt).trans (congrArg Nd.cells hxx)) rfl ?_) | ((with_reducible show TkE (fa qc vs) (0 + Int.toNat a * _) _ _); refine TkE.mk _ L1 rfl ?_) | ((with_reducible show TkE (fa qc vs) _ _ _); refine TkE.mk _ L2 rfl ?_) | refine rgE ?_ | refine Cd.mk rfl ?_ | refine Br.t ?_ | refine Br.f ?_ | refine ai.mk _ rfl ?_ | (refine TkE.fL ?_; (conv => whnf); fail_if_success (show ae _ _)) | refine Res.mk ?_ | refine b8.mk (by repeat first | exact True.intro | refine And.intro (by kernel_rfl) ?_) ?_ | ((with_reducible refine EqE.idS ?_); (refine EqE.fP ?_; (conv => whnf); fail_if_success (show ae _ _))) | refine Cd.ol ?_ | refine Cd.os ?_)
    rfl
   ·repeat' ((conv => whnf); first | refine dk.ir (ps := [(10, 5), (10, 6), (10, 7), (10, 8), (10, 9)]) rfl (by kernel_rfl) ?_ rfl | with_reducible refine Br.bt fun _ => ?_ | refine aa.mk _ _ (s2) ?_ | refine Cd.mk (bj xs _ (by omega)) ?_ | ((with_reducible show TkE (List.drop _ (List.flatMap Nd.cells _)) _ _ _); refine TkE.mk _ ((di xs vs.length hlt).trans (congrArg Nd.cells hxx)) rfl ?_) | ((with_reducible show TkE (fa qc vs) (0 + Int.toNat a * _) _ _); refine TkE.mk _ L1 rfl ?_) | ((with_reducible show TkE (fa qc vs) _ _ _); refine TkE.mk _ L2 rfl ?_) | refine rgE ?_ | refine Cd.mk rfl ?_ | refine Br.t ?_ | refine Br.f ?_ | refine ai.mk _ rfl ?_ | (refine TkE.fL ?_; (conv => whnf); fail_if_success (show ae _ _)) | refine Res.mk ?_ | refine b8.mk (by repeat first | exact True.intro | refine And.intro (by kernel_rfl) ?_) ?_ | ((with_reducible refine EqE.idS ?_); (refine EqE.fP ?_; (conv => whnf); fail_if_success (show ae _ _))) | refine Cd.ol ?_ | refine Cd.os ?_)
    rfl
   ·repeat' ((conv => whnf); first | refine dk.ir (ps := [(10, 5), (10, 6), (10, 7), (10, 8), (10, 9)]) rfl (by kernel_rfl) ?_ rfl | with_reducible refine Br.bt fun _ => ?_ | refine aa.mk _ _ (s2) ?_ | refine Cd.mk (bj xs _ (by omega)) ?_ | ((with_reducible show TkE (List.drop _ (List.flatMap Nd.cells _)) _ _ _); refine TkE.mk _ ((di xs vs.length hlt).trans (congrArg Nd.cells hxx)) rfl ?_) | ((with_reducible show TkE (fa qc vs) (0 + Int.toNat a * _) _ _); refine TkE.mk _ L1 rfl ?_) | ((with_reducible show TkE (fa qc vs) _ _ _); refine TkE.mk _ L2 rfl ?_) | refine rgE ?_ | refine Cd.mk rfl ?_ | refine Br.t ?_ | refine Br.f ?_ | refine ai.mk _ rfl ?_ | (refine TkE.fL ?_; (conv => whnf); fail_if_success (show ae _ _)) | refine Res.mk ?_ | refine b8.mk (by repeat first | exact True.intro | refine And.intro (by kernel_rfl) ?_) ?_ | ((with_reducible refine EqE.idS ?_); (refine EqE.fP ?_; (conv => whnf); fail_if_success (show ae _ _))) | refine Cd.ol ?_ | refine Cd.os ?_)
    rfl
 ·have hin : i = xs.length := by omega
  subst hin
  have T1 := tr (vs := vs) (a := ((xs.length - 1 : Nat) : Int)) (by omega) (by rw [Int.toNat_natCast]; omega)
  rw [Int.toNat_natCast] at T1
  rw [hex]
  have ek : arq (some vs) = D.tup [rqD (vs.getD (vs.length - 1) (ag, ag)), .bool true] := rfl
  rw [hvl] at ek
  rw [ek]
  clear ek
  generalize vs.getD (xs.length - 1) (ag, ag) = p at *
  obtain ⟨⟨_, _⟩, ⟨_, _⟩⟩ := p
  repeat' ((conv => whnf); first | with_reducible refine Br.bf fun _ => ?_ | refine Cd.mk (show 0 ≤ (((xs.length - 1 : Nat) : Int)) ∧ (((xs.length - 1 : Nat) : Int)) < xs.length by omega) ?_ | ((with_reducible show TkE (fa qc vs) _ _ _); refine TkE.mk _ T1 rfl ?_) | refine rgE ?_ | refine Cd.mk rfl ?_ | (refine TkE.fL ?_; (conv => whnf); fail_if_success (show ae _ _)) | refine Res.mk ?_ | ((with_reducible refine EqE.idW ?_); refine EqE.mk ((xs.length - 1 : Nat) : Int) (by rw [ak (by omega) (by omega)]; omega) ?_) | ((with_reducible refine EqE.idS ?_); (refine EqE.fP ?_; (conv => whnf); fail_if_success (show ae _ _))) | refine Cd.ol ?_)
  rfl
end Go.Ev.Ar

namespace Go.Ev.Ar
open Go Go.Ev Go.Proofs
def tc (a : Cq) : Cr := ⟨a.1.toRat, a.2.toRat⟩
theorem q7 (a b : Cq) : tc (aw a b) = tc a * tc b := by
 apply Cr.ext
 ·show (a.1 * b.1 - a.2 * b.2).toRat = a.1.toRat * b.1.toRat - a.2.toRat * b.2.toRat
  rw [show a.1 * b.1 - a.2 * b.2 = a.1 * b.1 + -(a.2 * b.2) by grind, tq, adi, kb, kb]; grind
 ·show (a.1 * b.2 + a.2 * b.1).toRat = a.1.toRat * b.2.toRat + a.2.toRat * b.1.toRat
  rw [tq, kb, kb]
theorem ao1 (a b : Cq) : tc (a.1 + b.1, a.2 + b.2) = tc a + tc b := by
 apply Cr.ext
 ·exact tq _ _
 ·exact tq _ _
theorem axj (a : Cq) : tc (-a.1, -a.2) = - tc a := by
 apply Cr.ext
 ·exact adi _
 ·exact adi _
theorem a2f (a b : Cq) : tc (a.1 - b.1, a.2 - b.2) = tc a - tc b := by
 have e : ((a.1 - b.1, a.2 - b.2) : Cq) = (a.1 + (-b.1, -b.2).1, a.2 + (-b.1, -b.2).2) := by
  dsimp only; congr 1 <;> grind
 rw [e, ao1 a (-b.1, -b.2), axj]; grind
theorem ao2 {a b : Cq} (h : tc a = tc b) : a = b :=
 Prod.ext (Dyadic.toRat_inj.1 (congrArg Cr.re h)) (Dyadic.toRat_inj.1 (congrArg Cr.im h))
theorem abo : tc (0, 0) = 0 := by
 apply Cr.ext
 ·exact eo
 ·exact eo
theorem axk : tc ag = 1 := by
 apply Cr.ext
 ·show (1 : Dyadic).toRat = ((1 : Nat) : Rat); decide
 ·exact eo
theorem axi {a : Cq} (h : a ≠ (0, 0)) : tc a ≠ 0 := fun g => h (ao2 (g.trans abo.symm))
theorem ae5 {c : Cr} (h : c ≠ 0) : ∃ d, c * d = 1 := by
 have n0 : c.re * c.re + c.im * c.im ≠ 0 := fun g => by
  have sq : ∀ r : Rat, 0 ≤ r * r := fun r => by
   rcases Classical.em (0 ≤ r) with g | g
   ·exact Rat.mul_nonneg g g
   ·have := Rat.mul_nonneg (show 0 ≤ -r by grind) (show 0 ≤ -r by grind); grind
  have s1 := sq c.re
  have s2 := sq c.im
  have z1 : c.re * c.re = 0 := by grind
  have z2 : c.im * c.im = 0 := by grind
  have y1 : c.re = 0 := by grind
  have y2 : c.im = 0 := by grind
  exact h (Cr.ext y1 y2)
 refine ⟨⟨c.re * (c.re * c.re + c.im * c.im)⁻¹, - (c.im * (c.re * c.re + c.im * c.im)⁻¹)⟩, ?_⟩
 have i := Rat.mul_inv_cancel _ n0
 apply Cr.ext
 ·show c.re * (c.re * (c.re * c.re + c.im * c.im)⁻¹) - c.im * -(c.im * (c.re * c.re + c.im * c.im)⁻¹) = ((1 : Nat) : Rat)
  generalize (c.re * c.re + c.im * c.im)⁻¹ = d at *
  have : ((1 : Nat) : Rat) = 1 := rfl
  grind
 ·show c.re * -(c.im * (c.re * c.re + c.im * c.im)⁻¹) + c.im * (c.re * (c.re * c.re + c.im * c.im)⁻¹) = 0
  generalize (c.re * c.re + c.im * c.im)⁻¹ = d at *
  grind
structure Vl (p : Rq) (v : Cr) : Prop where
 ne : p.2 ≠ (0, 0)
 eq : tc p.1 = v * tc p.2
theorem Vl.times {p q : Rq} {u v : Cr} (h : Vl p u) (k : Vl q v) : Vl (df p q) (u * v) := by
 refine ⟨kt h.ne k.ne, ?_⟩
 have e1 := h.eq
 have e2 := k.eq
 show tc (aw p.1 q.1) = u * v * tc (aw p.2 q.2)
 rw [q7, q7, e1, e2]; grind
theorem Vl.av5 {p q : Rq} {u v : Cr} (h : Vl p u) (k : Vl q v) : Vl (acr p q) (u + v) := by
 refine ⟨kt h.ne k.ne, ?_⟩
 have e1 := h.eq
 have e2 := k.eq
 show tc ((aw p.1 q.2).1 + (aw q.1 p.2).1, (aw p.1 q.2).2 + (aw q.1 p.2).2) = (u + v) * tc (aw p.2 q.2)
 rw [ao1, q7, q7, q7, e1, e2]; grind
theorem Vl.a24 {p q : Rq} {u v : Cr} (h : Vl p u) (k : Vl q v) : Vl (ah5 p q) (u - v) := by
 refine ⟨kt h.ne k.ne, ?_⟩
 have e1 := h.eq
 have e2 := k.eq
 show tc ((aw p.1 q.2).1 - (aw q.1 p.2).1, (aw p.1 q.2).2 - (aw q.1 p.2).2) = (u - v) * tc (aw p.2 q.2)
 rw [a2f, q7, q7, q7, e1, e2]; grind
theorem Vl.plus {p q : Rq} {u v : Cr} (h : Vl p u) (k : Vl q v) : Vl (rr p q) (u + v) := by
 unfold rr
 split
 ·rename_i e
  refine ⟨h.ne, ?_⟩
  have e1 := h.eq
  have e2 := k.eq
  show tc (p.1.1 + q.1.1, p.1.2 + q.1.2) = (u + v) * tc p.2
  rw [ao1, e1, e2, e]; grind
 ·exact h.av5 k
theorem Vl.neg {p : Rq} {u : Cr} (h : Vl p u) : Vl (alu p) (-u) := by
 refine ⟨h.ne, ?_⟩
 show tc (-p.1.1, -p.1.2) = -u * tc p.2
 rw [axj, h.eq]; grind
theorem Vl.zero {p : Rq} {u : Cr} (h : Vl p u) : p.1 = (0, 0) ↔ u = 0 := by
 constructor
 ·intro g
  have e := h.eq
  rw [g, abo] at e
  obtain ⟨d, hd⟩ := ae5 (axi h.ne)
  have : u = u * (tc p.2 * d) := by rw [hd]; grind
  rw [this]; grind
 ·intro g
  have e := h.eq
  rw [g] at e
  exact ao2 (by rw [e, abo]; grind)
theorem Vl.as0 {q : Rq} {v d : Cr} (k : Vl q v) (hd : v * d = 1) : Vl (q.2, q.1) d := by
 refine ⟨fun g => ?_, ?_⟩
 ·have := k.zero.1 g
  rw [this] at hd
  have h0 : (0 : Cr) = 1 := by grind
  have := congrArg Cr.re h0
  exact absurd this (by decide)
 ·show tc q.2 = d * tc q.1
  rw [k.eq]; grind
theorem Vl.pow {p : Rq} {u : Cr} (h : Vl p u) : ∀ j : Nat, ∃ w, ∀ q, Vl q u → Vl (qw q j) w
 | 0 => ⟨1, fun q _ => ⟨by show ag ≠ (0, 0); decide, by show tc ag = 1 * tc ag; grind⟩⟩
 | j + 1 => by
  obtain ⟨w, hw⟩ := Vl.pow h j
  exact ⟨w * u, fun q hq => (hw q hq).times hq⟩
theorem Vl.alike {p q : Rq} {u : Cr} (h : Vl p u) (k : Vl q u) : am6 p q = true := by
 refine decide_eq_true (ao2 ?_)
 rw [q7, q7, h.eq, k.eq]; grind
end Go.Ev.Ar

namespace Go.Ev.Ar
open Go Go.Ev Go.Proofs
structure Sv (ps rs : List Rq) : Prop where
 len : rs.length = ps.length
 v : ∀ j, j < ps.length → ∃ v, Vl (ps.getD j (ag, ag)) v ∧ Vl (rs.getD j (ag, ag)) v
theorem Sv.add {ps rs : List Rq} {p r : Rq} {v : Cr} (h : Sv ps rs) (hp : Vl p v) (hr : Vl r v) : Sv (ps ++ [p]) (rs ++ [r]) := by
 refine ⟨by simp [h.len], fun j hj => ?_⟩
 rw [List.length_append] at hj
 have : j < ps.length ∨ j = ps.length := by simp at hj; omega
 rcases this with g | rfl
 ·rw [n7 g, n7 (by rw [h.len]; exact g)]; exact h.v j g
 ·have e : (rs ++ [r]).getD ps.length (ag, ag) = r := by rw [← h.len, gj]
  rw [gj, e]; exact ⟨v, hp, hr⟩
theorem ayi {vs : List Rq} {x : Nd} {z : Cq} {p : Rq} (h : b9 vs x z = some p) (hn : p.2 ≠ (0, 0)) : j8 vs x z = some p := by
 unfold j8; rw [h]; show (if p.2 = (0, 0) then none else some p) = _; rw [if_neg hn]
theorem aug {vs : List Rq} {x : Nd} {z : Cq} {p : Rq} (h : b9 vs x z = some p) (hn : p.2 = (0, 0)) : j8 vs x z = none := by
 unfold j8; rw [h]; show (if p.2 = (0, 0) then none else some p) = _; rw [if_pos hn]
theorem akw {vs : List Rq} {x : Nd} {z : Cq} {p : Rq} (h : bx vs x z = some p) (hn : p.2 ≠ (0, 0)) : eb vs x z = some p := by
 unfold eb; rw [h]; show (if p.2 = (0, 0) then none else some p) = _; rw [if_neg hn]
theorem ayh {vs : List Rq} {x : Nd} {z : Cq} {p : Rq} (h : bx vs x z = some p) (hn : p.2 = (0, 0)) : eb vs x z = none := by
 unfold eb; rw [h]; show (if p.2 = (0, 0) then none else some p) = _; rw [if_pos hn]
theorem xy (c : Cq) : Vl (c, ag) (tc c) := ⟨by show ag ≠ (0, 0); decide, by show tc c = tc c * tc ag; rw [axk]; grind⟩
theorem avo {ps rs : List Rq} {x : Nd} {z : Cq} (h : Sv ps rs) (hx : k9 x ps.length = true) :
  (j8 ps x z = none ∧ eb rs x z = none) ∨ ∃ p r v, j8 ps x z = some p ∧ eb rs x z = some r ∧ Vl p v ∧ Vl r v := by
 obtain ⟨k1, k10, fa, fb, _, _, f7, _⟩ := j7 hx
 have kc : x.k = 1 ∨ x.k = 2 ∨ x.k = 3 ∨ x.k = 4 ∨ x.k = 5 ∨ x.k = 6 ∨ x.k = 7 ∨ (8 ≤ x.k ∧ x.k ≤ 10) := by omega
 have two : ∀ {p r : Rq} {v : Cr}, b9 ps x z = some p → bx rs x z = some r → Vl p v → Vl r v → (j8 ps x z = none ∧ eb rs x z = none) ∨ ∃ p r v, j8 ps x z = some p ∧ eb rs x z = some r ∧ Vl p v ∧ Vl r v :=
  fun {p r v} e1 e2 h1 h2 => .inr ⟨p, r, v, ayi e1 h1.ne, akw e2 h2.ne, h1, h2⟩
 rcases kc with k | k | k | k | k | k | k | k
 ·exact two (by unfold b9; rw [if_pos k]) (by unfold bx b9; rw [if_neg (by omega), if_neg (by omega), if_pos k]) (xy z) (xy z)
 ·exact two (by unfold b9; rw [if_neg (by omega), if_pos k]) (by unfold bx b9; rw [if_neg (by omega), if_neg (by omega), if_neg (by omega), if_pos k]) (xy _) (xy _)
 ·obtain ⟨a0, a1⟩ := fa (by omega)
  obtain ⟨b0, b1⟩ := fb (by omega)
  obtain ⟨u, hu, hu'⟩ := h.v x.a.toNat (by omega)
  obtain ⟨v, hv, hv'⟩ := h.v x.b.toNat (by omega)
  exact two (by unfold b9; rw [if_neg (by omega), if_neg (by omega), if_pos k]) (by unfold bx; rw [if_pos k]) (hu.plus hv) (hu'.av5 hv')
 ·obtain ⟨a0, a1⟩ := fa (by omega)
  obtain ⟨b0, b1⟩ := fb (by omega)
  obtain ⟨u, hu, hu'⟩ := h.v x.a.toNat (by omega)
  obtain ⟨v, hv, hv'⟩ := h.v x.b.toNat (by omega)
  have e : u + -v = u - v := by grind
  exact two (by unfold b9; rw [if_neg (by omega), if_neg (by omega), if_neg (by omega), if_pos k]) (by unfold bx; rw [if_neg (by omega), if_pos k]) (e ▸ hu.plus hv.neg) (hu'.a24 hv')
 ·obtain ⟨a0, a1⟩ := fa (by omega)
  obtain ⟨b0, b1⟩ := fb (by omega)
  obtain ⟨u, hu, hu'⟩ := h.v x.a.toNat (by omega)
  obtain ⟨v, hv, hv'⟩ := h.v x.b.toNat (by omega)
  exact two (by unfold b9; rw [if_neg (by omega), if_neg (by omega), if_neg (by omega), if_neg (by omega), if_pos k]) (by unfold bx b9; rw [if_neg (by omega), if_neg (by omega), if_neg (by omega), if_neg (by omega), if_neg (by omega), if_neg (by omega), if_pos k]) (hu.times hv) (hu'.times hv')
 ·obtain ⟨a0, a1⟩ := fa (by omega)
  obtain ⟨b0, b1⟩ := fb (by omega)
  obtain ⟨u, hu, hu'⟩ := h.v x.a.toNat (by omega)
  obtain ⟨v, hv, hv'⟩ := h.v x.b.toNat (by omega)
  have e1 : b9 ps x z = some (df (ps.getD x.a.toNat (ag, ag)) ((ps.getD x.b.toNat (ag, ag)).2, (ps.getD x.b.toNat (ag, ag)).1)) := by unfold b9; rw [if_neg (by omega), if_neg (by omega), if_neg (by omega), if_neg (by omega), if_neg (by omega), if_pos k]
  have e2 : bx rs x z = some (df (rs.getD x.a.toNat (ag, ag)) ((rs.getD x.b.toNat (ag, ag)).2, (rs.getD x.b.toNat (ag, ag)).1)) := by unfold bx b9; rw [if_neg (by omega), if_neg (by omega), if_neg (by omega), if_neg (by omega), if_neg (by omega), if_neg (by omega), if_neg (by omega), if_pos k]
  by_cases z0 : v = 0
  ·left
   have g1 := hv.zero.2 z0
   have g2 := hv'.zero.2 z0
   have cz : ∀ c : Cq, aw c (0, 0) = (0, 0) := fun c => by unfold aw; dsimp only; congr 1 <;> grind
   exact ⟨aug e1 (by show aw _ (ps.getD x.b.toNat (ag, ag)).1 = _; rw [g1, cz]), ayh e2 (by show aw _ (rs.getD x.b.toNat (ag, ag)).1 = _; rw [g2, cz])⟩
  ·obtain ⟨d, hd⟩ := ae5 z0
   exact two e1 e2 (hu.times (hv.as0 hd)) (hu'.times (hv'.as0 hd))
 ·obtain ⟨a0, a1⟩ := fa (by omega)
  obtain ⟨u, hu, hu'⟩ := h.v x.a.toNat (by omega)
  obtain ⟨w, hw⟩ := Vl.pow hu x.n.toNat
  exact two (by unfold b9; rw [if_neg (by omega), if_neg (by omega), if_neg (by omega), if_neg (by omega), if_neg (by omega), if_neg (by omega), if_pos k]) (by unfold bx b9; rw [if_neg (by omega), if_neg (by omega), if_neg (by omega), if_neg (by omega), if_neg (by omega), if_neg (by omega), if_neg (by omega), if_neg (by omega), if_pos k]) (hw _ hu) (hw _ hu')
 ·left
  have e1 : b9 ps x z = none := by unfold b9; rw [if_neg (by omega), if_neg (by omega), if_neg (by omega), if_neg (by omega), if_neg (by omega), if_neg (by omega), if_neg (by omega)]
  have e2 : bx rs x z = none := by unfold bx b9; rw [if_neg (by omega), if_neg (by omega), if_neg (by omega), if_neg (by omega), if_neg (by omega), if_neg (by omega), if_neg (by omega), if_neg (by omega), if_neg (by omega)]
  exact ⟨by unfold j8; rw [e1]; rfl, by unfold eb; rw [e2]; rfl⟩
theorem akr {xs : List Nd} {z : Cq} (hx : gu xs = true) : ∀ i, i ≤ xs.length → (exL xs z i = none ∧ qk xs z i = none) ∨ ∃ ps rs, exL xs z i = some ps ∧ qk xs z i = some rs ∧ Sv ps rs
 | 0, _ => .inr ⟨[], [], rfl, rfl, rfl, fun j h => absurd h (by simp)⟩
 | i + 1, hi => by
  rcases akr hx i (by omega) with ⟨h1, h2⟩ | ⟨ps, rs, h1, h2, h3⟩
  ·exact .inl ⟨aff h1 (by omega), ab1 h2 (by omega)⟩
  ·unfold gu at hx
   simp only [Bool.and_eq_true, decide_eq_true_eq, List.all_eq_true, List.mem_range] at hx
   have hn := hx.2 i (by omega)
   have hl := apr h1
   rw [← hl] at hn
   rcases avo (z := z) h3 hn with ⟨g1, g2⟩ | ⟨p, r, v, g1, g2, g3, g4⟩
   ·left
    rw [hl] at g1 g2
    exact ⟨by unfold exL; rw [h1]; show (j8 ps _ z).map _ = _; rw [g1]; rfl, by unfold qk; rw [h2]; show (eb rs _ z).map _ = _; rw [g2]; rfl⟩
   ·right
    rw [hl] at g1 g2
    exact ⟨ps ++ [p], rs ++ [r], by unfold exL; rw [h1]; show (j8 ps _ z).map _ = _; rw [g1]; rfl, by unfold qk; rw [h2]; show (eb rs _ z).map _ = _; rw [g2]; rfl, h3.add g3 g4⟩
end Go.Ev.Ar

namespace Go.Ev.Ar
open Go Go.Ev Go.Proofs
set_option maxHeartbeats 4000000 in
theorem as5 {xs : List Nd} {rz : RC} (hn : xs.length < 2^62) (hl : ∀ x ∈ xs, x.r.l.length < 2^32 ∧ x.r.k.length < 2^32) (hx : gu xs = false) :
  Sim Tryz.prog G0 false 47 [nsl xs, .agg rz.cells] (exR none) := by
 have s0 := th xs hn hl
 rw [hx] at s0
 obtain ⟨bz, lz, ez, cz', kz, fz⟩ := rz
 refine an (hs := (aue _)) af Tryz.func47 ?_
 repeat' ((conv => whnf); first | with_reducible refine ah.data ?_ | refine aa.mk _ _ (s0) ?_ | refine rgE ?_ | refine Cd.mk rfl ?_ | refine Br.t ?_ | (refine TkE.fL ?_; (conv => whnf); fail_if_success (show ae _ _)) | refine Res.mk ?_ | ((with_reducible refine EqE.idS ?_); (refine EqE.fP ?_; (conv => whnf); fail_if_success (show ae _ _))) | refine Cd.ol ?_)
 rw [← w8]; rfl
set_option maxHeartbeats 4000000 in
theorem asf {xs : List Nd} {rz : RC} (hn : xs.length < 2^62) (hl : ∀ x ∈ xs, x.r.l.length ≤ 4194304 ∧ x.r.k.length ≤ 4194304) (hx : gu xs = false) :
  Sim Tryz.prog G0 false 48 [nsl xs, .agg rz.cells] (arq none) := by
 have s0 := yv xs hn hl
 rw [hx] at s0
 obtain ⟨bz, lz, ez, cz', kz, fz⟩ := rz
 refine an (hs := (aps _)) af Tryz.func48 ?_
 repeat' ((conv => whnf); first | with_reducible refine ah.data ?_ | refine aa.mk _ _ (s0) ?_ | refine rgE ?_ | refine Cd.mk rfl ?_ | refine Br.t ?_ | (refine TkE.fL ?_; (conv => whnf); fail_if_success (show ae _ _)) | refine Res.mk ?_ | ((with_reducible refine EqE.idS ?_); (refine EqE.fP ?_; (conv => whnf); fail_if_success (show ae _ _))) | refine Cd.ol ?_)
 rfl
end Go.Ev.Ar
