/- Contracts of the given functions, on data. Conditions stand in each theorem. -/
import Derived.Test.YtagjickjfjgfpaaGreatDoorGEvR
import Derived.Test.YtagjickjfjgfpaaGreatDoorGEvEc
set_option linter.unusedSimpArgs false
set_option linter.unusedVariables false
namespace Go.Ev.Ar
open Go Go.Ev Go.Proofs
theorem ng {vs : List Rq} {n : Nat} {a : Int} {o : Option Rq} (h0 : 0 ≤ a) (h1 : a.toNat < n) (hv : vs.length ≤ n) (h : (a9 vs n).getD a.toNat none = o) : ((fa oc (a9 vs n)).drop (0 + a.toNat * 12)).take 12 = (oc o).map A.d := by
 have := w9 (f := oc) (k := 12) aji none (a9 vs n) a.toNat (by rw [xt hv]; exact h1)
 rw [Int.toNat_natCast] at this
 rw [this, h]
theorem abb {vs : List Rq} {n : Nat} (r : Rq) (h : vs.length < n) : setAt (fa oc (a9 vs n)) (0 + ((vs.length : Nat) : Int).toNat * 12) ((oc (some r)).map A.d) = fa oc (a9 (vs ++ [r]) n) := by
 have := afg (f := oc) (k := 12) aji (a9 vs n) vs.length (some r) (by rw [xt (by omega)]; exact h)
 rw [this, agh r h]
theorem a1x {vs : List Rq} {n : Nat} (r s : Rq) (h : vs.length < n) : setAt (fa oc (a9 (vs ++ [s]) n)) (0 + ((vs.length : Nat) : Int).toNat * 12) ((oc (some r)).map A.d) = fa oc (a9 (vs ++ [r]) n) := by
 have := afg (f := oc) (k := 12) aji (a9 (vs ++ [s]) n) vs.length (some r) (by rw [xt (by simp; omega)]; exact h)
 rw [this, ← agh s h, List.set_set, agh r h]
theorem qp {vs : List Rq} {n : Nat} (r : Rq) (h : vs.length < n) : ((fa oc (a9 (vs ++ [r]) n)).drop (0 + ((vs.length : Nat) : Int).toNat * 12)).take 12 = (oc (some r)).map A.d :=
 ng (by omega) (by rw [Int.toNat_natCast]; exact h) (by simp; omega) (by rw [Int.toNat_natCast, ew (by simp), gj])
theorem ajh {vs : List Rq} {n : Nat} (h : vs.length ≤ n) : (fa oc (a9 vs n)).length = n * 12 := by rw [nn aji, xt h]
theorem alc (n : Nat) : jv (n : Int).toNat (ow [.bool, .nil, .int .i64, .bool, .nil, .int .i64, .bool, .nil, .int .i64, .bool, .nil, .int .i64]) = fa oc (a9 [] n) := by rw [Int.toNat_natCast]; exact a08 n
theorem az {α : Type} (ks : List Nat) (k : Nat) (f : Bool) (g : α → List D) (l : List α) (h : List (Nat × Bool × List A)) (H : h.all (fun x => A.a6 ks x.2.2) = true) : List.all ((k, f, fa g l) :: h) (fun x => A.a6 ks x.2.2) = true := by
 rw [List.all_cons, H, fa, A.dd]; rfl
theorem qh {ks : List Nat} {k : Nat} {f : Bool} {l : List A} {h : List (Nat × Bool × List A)} (h1 : A.a6 ks l = true) (H : h.all (fun x => A.a6 ks x.2.2) = true) : List.all ((k, f, l) :: h) (fun x => A.a6 ks x.2.2) = true := by
 rw [List.all_cons, H, h1]; rfl
theorem rp {vs : List Rq} {n : Nat} (h : vs.length < n) : 0 + ((vs.length : Nat) : Int).toNat * 12 + 12 ≤ (fa oc (a9 vs n)).length := by rw [ajh (by omega), Int.toNat_natCast]; omega
theorem a1w {vs : List Rq} {n : Nat} (r : Rq) (h : vs.length < n) : 0 + ((vs.length : Nat) : Int).toNat * 12 + 12 ≤ (fa oc (a9 (vs ++ [r]) n)).length := by rw [ajh (by simp; omega), Int.toNat_natCast]; omega
def exR (o : Option (List Rq)) : D := match o with
 | some vs => .tup [cxD (vs.getD (vs.length - 1) (ag, ag)).1, cxD (vs.getD (vs.length - 1) (ag, ag)).2, .bool true]
 | none => .tup [cxD (0, 0), cxD (0, 0), .bool false]
theorem aue (o : Option (List Rq)) : (exR o).sc = false := by cases o <;> rfl
theorem w8 : D.tup [.agg [.bool false, sl [], .int .i64 0, .bool false, sl [], .int .i64 0], .agg [.bool false, sl [], .int .i64 0, .bool false, sl [], .int .i64 0], .bool false] = exR none := by
 unfold exR; rw [wu]
theorem aau {xs : List Nd} {z : Cq} {i : Nat} {vs : List Rq} {x : Nd} {r : Rq} (h : exL xs z i = some vs) (hx : xs.getD i Nd.nil = x) (hv : b9 vs x z = some r) (hr : r.2 ≠ (0, 0)) : exL xs z (i + 1) = some (vs ++ [r]) := by
 unfold exL; rw [h, hx]; show (j8 vs x z).map _ = _
 unfold j8; rw [hv]; show Option.map _ (if r.2 = (0, 0) then none else some r) = _
 rw [if_neg hr]; rfl
theorem a07 {xs : List Nd} {z : Cq} {i n : Nat} {vs : List Rq} {x : Nd} (h : exL xs z i = some vs) (hx : xs.getD i Nd.nil = x) (hv : j8 vs x z = none) (hi : i < n) : exL xs z n = none := by
 refine aff (i := i + 1) ?_ hi
 unfold exL; rw [h, hx]; show (j8 vs x z).map _ = _
 rw [hv]; rfl
theorem ob : ag ≠ (0, 0) := by decide
theorem amb {p q : Rq} (hp : p.2 ≠ (0, 0)) (hq : q.2 ≠ (0, 0)) : (rr p q).2 ≠ (0, 0) := by
 unfold rr; split
 ·exact hp
 ·exact kt hp hq
set_option maxRecDepth 10000 in
set_option maxHeartbeats 16000000 in
theorem z9 {xs : List Nd} {rz : RC} {z : Cq} (hn : xs.length < 2^62) (hl : ∀ x ∈ xs, x.r.l.length < 2^32 ∧ x.r.k.length < 2^32) (hzr : CxR (.agg rz.cells) z) (hz : Hc 104 z) (hc : ∀ i, i < xs.length → Hc 104 (xs.getD i Nd.nil).r.val) (hx : gu xs = true) (hb : ∀ i, i < xs.length → ik (szL xs i) (xs.getD i Nd.nil) i ≤ 60) :
  Sim Tryz.prog G0 false 47 [nsl xs, .agg rz.cells] (exR (exL xs z xs.length)) := by
 have s0 := th xs hn hl
 rw [hx] at s0
 unfold gu at hx
 simp only [Bool.and_eq_true, decide_eq_true_eq, List.all_eq_true, List.mem_range] at hx
 obtain ⟨⟨n0, n40⟩, hall⟩ := hx
 have s1 : Sim Tryz.prog G0 false 90 [.int .i64 1, .int .i64 0] (cxD ag) := auj 1 0 (by decide) (by decide) (by decide) (by decide)
 have s2 := art (r := z) 0 hzr (by rw [show min (max (0 : Int) (-20000)) 20000 = 0 by decide, show dof 1 0 = 1 by decide]; exact Prod.ext (by show z.1 * 1 = z.1; grind) (by show z.2 * 1 = z.2; grind))
 obtain ⟨bz, lz, ez, cz', kz, fz⟩ := rz
 refine an (hs := (aue _)) af Tryz.func47 ?_
 repeat' ((conv => whnf); first | with_reducible refine ah.data ?_ | refine aa.mk _ _ (s0) ?_ | refine aa.mk _ _ (s1) ?_ | refine EqE.mk _ (alc xs.length) ?_ | refine rgE ?_ | refine Cd.mk rfl ?_ | refine Br.f ?_ | ((with_reducible refine EqE.idS ?_); (refine EqE.fP ?_; (conv => whnf); fail_if_success (show ae _ _))) | refine Cd.ol ?_ | refine Cd.os ?_)
 refine ⟨[], [3, 4, 5, 7, 8, 23, 24, 25], [3, 4, 5, 7, 22], fun m ys h => ∃ (i : Nat) (vs : List Rq), m = xs.length - i ∧ i ≤ xs.length ∧ vs.length = i ∧ exL xs z i = some vs ∧ Fit (szL xs i) vs ∧
   ys = [.ptr 3 0, .ptr 4 0, .ptr 5 0, .ptr 7 0, .own 22 0 xs.length 12, .d (nsl xs), .d (.int .i64 xs.length), .d (.int .i64 i)] ∧
   h = [(22, false, fa oc (a9 vs xs.length)), (7, false, dyC 1 ++ dyC 0), (5, false, zeA ++ zeA), (4, false, zeA ++ zeA), (3, false, [.d (.bool bz), .d (sl lz), .d (.int .i64 ez), .d (.bool cz'), .d (sl kz), .d (.int .i64 fz)])],
  ⟨_, _, _, ⟨.inl rfl, rfl, rfl, az _ _ _ _ _ _ rfl⟩, 0, [], rfl, by omega, rfl, rfl, Fit.nil, rfl, rfl⟩, ?_⟩
 rintro m ys h ⟨i, vs, rfl, hi, hvl, hex, hfit, rfl, rfl⟩
 by_cases hlt : i < xs.length
 ·subst hvl
  have hx' := hall _ hlt
  have hcx := hc _ hlt
  have hsz := hb _ hlt
  have hvr := fun r h => afy (r := r) hfit hx' hz hcx hsz h
  have fx := j7 hx'
  have hstep := fun (r : Rq) hv hr => aau (r := r) hex rfl hv hr
  have hstop := fun hv => a07 (n := xs.length) hex rfl hv hlt
  have hfadd := fun (r : Rq) hv (hr : r.2 ≠ (0, 0)) => hfit.add ⟨(hvr r hv).1, hsz⟩ (hvr r hv).2 hr
  have hszl : szL xs (vs.length + 1) = szL xs vs.length ++ [ik (szL xs vs.length) (xs.getD vs.length Nd.nil) vs.length] := rfl
  rw [← hszl] at hfadd
  have h66 : (ik (szL xs vs.length) (xs.getD vs.length Nd.nil) vs.length).toNat ≤ 60 := by omega
  have hr9 : ∀ r, b9 vs (xs.getD vs.length Nd.nil) z = some r → Hr 9000 r := fun r hv => Hr.mono (hvr r hv).2 (by omega)
  have hp9 : ∀ j, j < vs.length → Hr 9000 (vs.getD j (ag, ag)) := fun j hj => Hr.mono (hfit.v j hj) (by have := hfit.s1 j hj; omega)
  have hpw : ∀ a : Int, 0 ≤ a → a.toNat < vs.length → (xs.getD vs.length Nd.nil).k = 7 → (xs.getD vs.length Nd.nil).a = a → ∀ j : Nat, j ≤ (xs.getD vs.length Nd.nil).n.toNat → Hr 9000 (qw (vs.getD a.toNat (ag, ag)) j) := fun a ha0 ha1 hk ha j hj => by
   have sa := hfit.s1 a.toNat ha1
   have va := hfit.v a.toNat ha1
   have f7 := fx.2.2.2.2.2.2.1 hk
   unfold ik at hsz
   rw [if_pos ⟨hk, gg.2 (by rw [ha]; omega)⟩, ha] at hsz
   generalize (szL xs vs.length).getD a.toNat 0 = s at *
   obtain ⟨s, rfl⟩ := Int.eq_ofNat_of_zero_le (show 0 ≤ s by omega)
   obtain ⟨N, hN⟩ := Int.eq_ofNat_of_zero_le f7.1
   rw [hN] at hsz hj f7
   rw [Int.toNat_natCast] at va hj
   rw [show (max 1 (min (N : Int) 64) : Int) = ((max 1 N : Nat) : Int) by omega, ← Int.natCast_mul] at hsz
   have g : s * j ≤ s * max 1 N := Nat.mul_le_mul_left s (by omega)
   refine Hr.mono (aej va j) ?_
   have : (110 * s + 1) * j + 1 = 110 * (s * j) + j + 1 := by rw [Nat.add_mul, Nat.one_mul, Nat.mul_assoc]
   omega
  clear hvr hc hb hall hsz h66 hcx
  generalize hxx : xs.getD vs.length Nd.nil = x at *
  obtain ⟨k, a, b, n', ⟨b1, l1, e1, c1, k1, f1⟩⟩ := x
  obtain ⟨kk1, kk10, fa', fb', ga, gb, f7, f2⟩ := fx
  dsimp only at kk1 kk10 fa' fb' ga gb f7 f2 hpw
  have kc : k = 1 ∨ k = 2 ∨ k = 3 ∨ k = 4 ∨ k = 5 ∨ k = 6 ∨ k = 7 ∨ (8 ≤ k ∧ k ≤ 10) := by omega
  have hvl := xt (vs := vs) (n := xs.length) (by omega)
  rcases kc with rfl | rfl | rfl | rfl | rfl | rfl | rfl | k8
  ·have a0 := ga (by omega)
   have b0 := gb (by omega)
   subst a0 b0
   have hv : b9 vs ⟨1, 0, 0, n', ⟨b1, l1, e1, c1, k1, f1⟩⟩ z = some (z, ag) := rfl
   have sF := my (t := true) (hr9 _ hv) (show (!decide (ag = (0, 0))) = true by decide)
   have S1 := abb (z, ag) hlt
   have T1 := qp (z, ag) hlt
   obtain ⟨o, ho⟩ : ∃ o, (a9 vs xs.length).getD (0 : Int).toNat none = o := ⟨_, rfl⟩
   have L1 := ng (a := 0) (by omega) (by rw [show (0 : Int).toNat = 0 from rfl]; omega) (show vs.length ≤ xs.length by omega) ho
   cases o
   ·repeat' ((conv => whnf); first | with_reducible refine ah.data ?_ | refine dk.ir (ps := [(12, 5), (12, 6), (12, 7), (12, 8), (12, 9)]) rfl (by kernel_rfl) ?_ rfl | with_reducible refine Br.bt fun _ => ?_ | refine aa.mk _ _ (s2) ?_ | refine Cd.mk (bj xs _ (by omega)) ?_ | ((with_reducible show TkE (List.drop _ (List.flatMap Nd.cells _)) _ _ _); refine TkE.mk _ ((di xs vs.length hlt).trans (congrArg Nd.cells hxx)) rfl ?_) | ((with_reducible show TkE (fa oc (a9 vs _)) _ _ _); refine TkE.mk _ L1 rfl ?_) | ((with_reducible show TkE (fa oc (a9 (vs ++ _) _)) _ _ _); refine TkE.mk _ T1 rfl ?_) | refine Cd.mk (rp hlt) ?_ | refine ao.go _ _ ⟨.inl rfl, rfl, rfl, az _ _ _ _ _ _ rfl⟩ ?_ | refine aa.mk _ _ (sF) ?_ | refine rgE ?_ | refine Cd.mk rfl ?_ | refine Br.t ?_ | refine Br.f ?_ | refine ai.mk _ rfl ?_ | (refine TkE.fL ?_; (conv => whnf); fail_if_success (show ae _ _)) | refine b8.mk (by repeat first | exact True.intro | refine And.intro (by kernel_rfl) ?_) ?_ | ((with_reducible refine EqE.idW ?_); with_reducible refine EqE.mk _ (a5 _ (by omega)) ?_) | ((with_reducible refine EqE.idS ?_); first | ((with_reducible show EqE (setAt (fa oc _) _ _) _); refine EqE.mk _ S1 ?_) | (refine EqE.fP ?_; (conv => whnf); fail_if_success (show ae _ _))) | refine Cd.ol ?_ | refine Cd.os ?_)
    exact ⟨_, ⟨vs.length + 1, vs ++ [(z, ag)], rfl, by omega, by simp, hstep _ hv ob, hfadd _ hv ob, rfl, rfl⟩, by omega⟩
   ·rename_i p
    obtain ⟨⟨_, _⟩, ⟨_, _⟩⟩ := p
    repeat' ((conv => whnf); first | with_reducible refine ah.data ?_ | refine dk.ir (ps := [(12, 5), (12, 6), (12, 7), (12, 8), (12, 9)]) rfl (by kernel_rfl) ?_ rfl | with_reducible refine Br.bt fun _ => ?_ | refine aa.mk _ _ (s2) ?_ | refine Cd.mk (bj xs _ (by omega)) ?_ | ((with_reducible show TkE (List.drop _ (List.flatMap Nd.cells _)) _ _ _); refine TkE.mk _ ((di xs vs.length hlt).trans (congrArg Nd.cells hxx)) rfl ?_) | ((with_reducible show TkE (fa oc (a9 vs _)) _ _ _); refine TkE.mk _ L1 rfl ?_) | ((with_reducible show TkE (fa oc (a9 (vs ++ _) _)) _ _ _); refine TkE.mk _ T1 rfl ?_) | refine Cd.mk (rp hlt) ?_ | refine ao.go _ _ ⟨.inl rfl, rfl, rfl, az _ _ _ _ _ _ rfl⟩ ?_ | refine aa.mk _ _ (sF) ?_ | refine rgE ?_ | refine Cd.mk rfl ?_ | refine Br.t ?_ | refine Br.f ?_ | refine ai.mk _ rfl ?_ | (refine TkE.fL ?_; (conv => whnf); fail_if_success (show ae _ _)) | refine b8.mk (by repeat first | exact True.intro | refine And.intro (by kernel_rfl) ?_) ?_ | ((with_reducible refine EqE.idW ?_); with_reducible refine EqE.mk _ (a5 _ (by omega)) ?_) | ((with_reducible refine EqE.idS ?_); first | ((with_reducible show EqE (setAt (fa oc _) _ _) _); refine EqE.mk _ S1 ?_) | (refine EqE.fP ?_; (conv => whnf); fail_if_success (show ae _ _))) | refine Cd.ol ?_ | refine Cd.os ?_)
    exact ⟨_, ⟨vs.length + 1, vs ++ [(z, ag)], rfl, by omega, by simp, hstep _ hv ob, hfadd _ hv ob, rfl, rfl⟩, by omega⟩
  ·have a0 := ga (by omega)
   have b0 := gb (by omega)
   subst a0 b0
   obtain ⟨d1, d2⟩ := f2 rfl
   obtain ⟨q1, q2, q3, _⟩ := j6 d1
   obtain ⟨q4, q5, q6, _⟩ := j6 d2
   have hv : b9 vs ⟨2, 0, 0, n', ⟨b1, l1, e1, c1, k1, f1⟩⟩ z = some ((dof (zv b1 l1) e1, dof (zv c1 k1) f1), ag) := rfl
   have h9 := hr9 _ hv
   have hst := hstep _ hv ob
   have hfa := hfadd _ hv ob
   clear hr9 hp9 hpw hstep hfadd hstop d1 d2 f2 hv
   generalize dof (zv b1 l1) e1 = u at *
   generalize dof (zv c1 k1) f1 = v at *
   subst q1 q2 q3 q4 q5 q6
   have sF := my (t := true) h9 (show (!decide (ag = (0, 0))) = true by decide)
   have S1 := abb ((u, v), ag) hlt
   have T1 := qp ((u, v), ag) hlt
   obtain ⟨o, ho⟩ : ∃ o, (a9 vs xs.length).getD (0 : Int).toNat none = o := ⟨_, rfl⟩
   have L1 := ng (a := 0) (by omega) (by rw [show (0 : Int).toNat = 0 from rfl]; omega) (show vs.length ≤ xs.length by omega) ho
   cases o
   ·repeat' ((conv => whnf); first | with_reducible refine ah.data ?_ | refine dk.ir (ps := [(12, 5), (12, 6), (12, 7), (12, 8), (12, 9)]) rfl (by kernel_rfl) ?_ rfl | with_reducible refine Br.bt fun _ => ?_ | refine Cd.mk (bj xs _ (by omega)) ?_ | ((with_reducible show TkE (List.drop _ (List.flatMap Nd.cells _)) _ _ _); refine TkE.mk _ ((di xs vs.length hlt).trans (congrArg Nd.cells hxx)) rfl ?_) | ((with_reducible show TkE (fa oc (a9 vs _)) _ _ _); refine TkE.mk _ L1 rfl ?_) | ((with_reducible show TkE (fa oc (a9 (vs ++ _) _)) _ _ _); refine TkE.mk _ T1 rfl ?_) | refine Cd.mk (rp hlt) ?_ | refine ao.go _ _ ⟨.inl rfl, rfl, rfl, az _ _ _ _ _ _ rfl⟩ ?_ | refine aa.mk _ _ (sF) ?_ | refine rgE ?_ | refine Cd.mk rfl ?_ | refine Br.t ?_ | refine Br.f ?_ | refine ai.mk _ rfl ?_ | (refine TkE.fL ?_; (conv => whnf); fail_if_success (show ae _ _)) | refine b8.mk (by repeat first | exact True.intro | refine And.intro (by kernel_rfl) ?_) ?_ | ((with_reducible refine EqE.idW ?_); with_reducible refine EqE.mk _ (a5 _ (by omega)) ?_) | ((with_reducible refine EqE.idS ?_); first | ((with_reducible show EqE (setAt (fa oc _) _ _) _); refine EqE.mk _ S1 ?_) | (refine EqE.fP ?_; (conv => whnf); fail_if_success (show ae _ _))) | refine Cd.ol ?_ | refine Cd.os ?_)
    exact ⟨_, ⟨vs.length + 1, vs ++ [((u, v), ag)], rfl, by omega, by simp, hst, hfa, rfl, rfl⟩, by omega⟩
   ·rename_i p
    obtain ⟨⟨_, _⟩, ⟨_, _⟩⟩ := p
    repeat' ((conv => whnf); first | with_reducible refine ah.data ?_ | refine dk.ir (ps := [(12, 5), (12, 6), (12, 7), (12, 8), (12, 9)]) rfl (by kernel_rfl) ?_ rfl | with_reducible refine Br.bt fun _ => ?_ | refine Cd.mk (bj xs _ (by omega)) ?_ | ((with_reducible show TkE (List.drop _ (List.flatMap Nd.cells _)) _ _ _); refine TkE.mk _ ((di xs vs.length hlt).trans (congrArg Nd.cells hxx)) rfl ?_) | ((with_reducible show TkE (fa oc (a9 vs _)) _ _ _); refine TkE.mk _ L1 rfl ?_) | ((with_reducible show TkE (fa oc (a9 (vs ++ _) _)) _ _ _); refine TkE.mk _ T1 rfl ?_) | refine Cd.mk (rp hlt) ?_ | refine ao.go _ _ ⟨.inl rfl, rfl, rfl, az _ _ _ _ _ _ rfl⟩ ?_ | refine aa.mk _ _ (sF) ?_ | refine rgE ?_ | refine Cd.mk rfl ?_ | refine Br.t ?_ | refine Br.f ?_ | refine ai.mk _ rfl ?_ | (refine TkE.fL ?_; (conv => whnf); fail_if_success (show ae _ _)) | refine b8.mk (by repeat first | exact True.intro | refine And.intro (by kernel_rfl) ?_) ?_ | ((with_reducible refine EqE.idW ?_); with_reducible refine EqE.mk _ (a5 _ (by omega)) ?_) | ((with_reducible refine EqE.idS ?_); first | ((with_reducible show EqE (setAt (fa oc _) _ _) _); refine EqE.mk _ S1 ?_) | (refine EqE.fP ?_; (conv => whnf); fail_if_success (show ae _ _))) | refine Cd.ol ?_ | refine Cd.os ?_)
    exact ⟨_, ⟨vs.length + 1, vs ++ [((u, v), ag)], rfl, by omega, by simp, hst, hfa, rfl, rfl⟩, by omega⟩
  ·obtain ⟨a0, a1⟩ := fa' (by omega)
   obtain ⟨b0, b1'⟩ := fb' (by omega)
   have L1 := ng (n := xs.length) a0 (by omega) (by omega) (ew (vs := vs) (n := xs.length) (i := a.toNat) (by omega))
   have L2 := ng (n := xs.length) b0 (by omega) (by omega) (ew (vs := vs) (n := xs.length) (i := b.toNat) (by omega))
   have pa := hp9 a.toNat (by omega)
   have pb := hp9 b.toNat (by omega)
   have na := hfit.nz a.toNat (by omega)
   have nb' := hfit.nz b.toNat (by omega)
   have hv : b9 vs ⟨3, a, b, n', ⟨b1, l1, e1, c1, k1, f1⟩⟩ z = some (rr (vs.getD a.toNat (ag, ag)) (vs.getD b.toNat (ag, ag))) := rfl
   clear hpw hp9
   generalize vs.getD a.toNat (ag, ag) = p at *
   generalize vs.getD b.toNat (ag, ag) = q at *
   obtain ⟨r, hr⟩ : ∃ r, rr p q = r := ⟨_, rfl⟩
   rw [hr] at hv
   have h9 := hr9 _ hv
   have ne : r.2 ≠ (0, 0) := hr ▸ amb na nb'
   have sP := ama pa pb hr
   have S1 := abb r hlt
   have T1 := qp r hlt
   have sF := my (t := true) h9 (by rw [decide_eq_false ne]; rfl)
   have hst := hstep _ hv ne
   have hfa := hfadd _ hv ne
   clear pa pb na nb' hr hr9 hstep hstop hfadd hv fa' fb' ga gb f7 f2
   obtain ⟨⟨_, _⟩, ⟨_, _⟩⟩ := p
   obtain ⟨⟨_, _⟩, ⟨_, _⟩⟩ := q
   obtain ⟨⟨_, _⟩, ⟨_, _⟩⟩ := r
   repeat' ((conv => whnf); first | with_reducible refine ah.data ?_ | refine dk.ir (ps := [(12, 5), (12, 6), (12, 7), (12, 8), (12, 9)]) rfl (by kernel_rfl) ?_ rfl | with_reducible refine Br.bt fun _ => ?_ | refine Cd.mk (bj xs _ (by omega)) ?_ | ((with_reducible show TkE (List.drop _ (List.flatMap Nd.cells _)) _ _ _); refine TkE.mk _ ((di xs vs.length hlt).trans (congrArg Nd.cells hxx)) rfl ?_) | ((with_reducible show TkE (fa oc (a9 vs _)) (0 + Int.toNat a * _) _ _); refine TkE.mk _ L1 rfl ?_) | ((with_reducible show TkE (fa oc (a9 vs _)) (0 + Int.toNat b * _) _ _); refine TkE.mk _ L2 rfl ?_) | ((with_reducible show TkE (fa oc (a9 (vs ++ _) _)) _ _ _); refine TkE.mk _ T1 rfl ?_) | refine Cd.mk (rp hlt) ?_ | refine ao.go _ _ ⟨.inl rfl, rfl, rfl, az _ _ _ _ _ _ rfl⟩ ?_ | refine aa.mk _ _ (sP) ?_ | refine aa.mk _ _ (sF) ?_ | refine rgE ?_ | refine Cd.mk rfl ?_ | refine Br.t ?_ | refine Br.f ?_ | refine ai.mk _ rfl ?_ | (refine TkE.fL ?_; (conv => whnf); fail_if_success (show ae _ _)) | refine b8.mk (by repeat first | exact True.intro | refine And.intro (by kernel_rfl) ?_) ?_ | ((with_reducible refine EqE.idW ?_); with_reducible refine EqE.mk _ (a5 _ (by omega)) ?_) | ((with_reducible refine EqE.idS ?_); first | ((with_reducible show EqE (setAt (fa oc _) _ _) _); refine EqE.mk _ S1 ?_) | (refine EqE.fP ?_; (conv => whnf); fail_if_success (show ae _ _))) | refine Cd.ol ?_ | refine Cd.os ?_)
   exact ⟨_, ⟨vs.length + 1, vs ++ [_], rfl, by omega, by simp, hst, hfa, rfl, rfl⟩, by omega⟩
  ·obtain ⟨a0, a1⟩ := fa' (by omega)
   obtain ⟨b0, b1'⟩ := fb' (by omega)
   have L1 := ng (n := xs.length) a0 (by omega) (by omega) (ew (vs := vs) (n := xs.length) (i := a.toNat) (by omega))
   have L2 := ng (n := xs.length) b0 (by omega) (by omega) (ew (vs := vs) (n := xs.length) (i := b.toNat) (by omega))
   have pa := hp9 a.toNat (by omega)
   have pb := hp9 b.toNat (by omega)
   have na := hfit.nz a.toNat (by omega)
   have nb' := hfit.nz b.toNat (by omega)
   have hv : b9 vs ⟨4, a, b, n', ⟨b1, l1, e1, c1, k1, f1⟩⟩ z = some (rr (vs.getD a.toNat (ag, ag)) (alu (vs.getD b.toNat (ag, ag)))) := rfl
   clear hpw hp9
   generalize vs.getD a.toNat (ag, ag) = p at *
   generalize vs.getD b.toNat (ag, ag) = q at *
   obtain ⟨r, hr⟩ : ∃ r, rr p (alu q) = r := ⟨_, rfl⟩
   rw [hr] at hv
   have h9 := hr9 _ hv
   have ne : r.2 ≠ (0, 0) := hr ▸ amb na (q := alu q) nb'
   obtain ⟨N, hN⟩ : ∃ N : Cq, (-q.1.1, -q.1.2) = N := ⟨_, rfl⟩
   have eN : alu q = (N, q.2) := by unfold alu; rw [hN]
   rw [eN] at hr
   have sG := ayk (CxR.of (pb.1.mono (show 9000 ≤ 1048576 by decide))) hN
   have hNh : Hc 9000 N := hN ▸ ⟨pb.1.1.neg, pb.1.2.neg⟩
   have sP := ama pa (q := (N, q.2)) ⟨hNh, pb.2⟩ hr
   clear hN eN hNh
   obtain ⟨_, _⟩ := N
   have S1 := abb r hlt
   have T1 := qp r hlt
   have sF := my (t := true) h9 (by rw [decide_eq_false ne]; rfl)
   have hst := hstep _ hv ne
   have hfa := hfadd _ hv ne
   clear pa pb na nb' hr hr9 hstep hstop hfadd hv fa' fb' ga gb f7 f2
   obtain ⟨⟨_, _⟩, ⟨_, _⟩⟩ := p
   obtain ⟨⟨_, _⟩, ⟨_, _⟩⟩ := q
   obtain ⟨⟨_, _⟩, ⟨_, _⟩⟩ := r
   repeat' ((conv => whnf); first | with_reducible refine ah.data ?_ | refine dk.ir (ps := [(12, 5), (12, 6), (12, 7), (12, 8), (12, 9)]) rfl (by kernel_rfl) ?_ rfl | with_reducible refine Br.bt fun _ => ?_ | refine Cd.mk (bj xs _ (by omega)) ?_ | ((with_reducible show TkE (List.drop _ (List.flatMap Nd.cells _)) _ _ _); refine TkE.mk _ ((di xs vs.length hlt).trans (congrArg Nd.cells hxx)) rfl ?_) | ((with_reducible show TkE (fa oc (a9 vs _)) (0 + Int.toNat a * _) _ _); refine TkE.mk _ L1 rfl ?_) | ((with_reducible show TkE (fa oc (a9 vs _)) (0 + Int.toNat b * _) _ _); refine TkE.mk _ L2 rfl ?_) | ((with_reducible show TkE (fa oc (a9 (vs ++ _) _)) _ _ _); refine TkE.mk _ T1 rfl ?_) | refine Cd.mk (rp hlt) ?_ | refine ao.go _ _ ⟨.inl rfl, rfl, rfl, az _ _ _ _ _ _ rfl⟩ ?_ | refine aa.mk _ _ (sG) ?_ | refine aa.mk _ _ (sP) ?_ | refine aa.mk _ _ (sF) ?_ | refine rgE ?_ | refine Cd.mk rfl ?_ | refine Br.t ?_ | refine Br.f ?_ | refine ai.mk _ rfl ?_ | (refine TkE.fL ?_; (conv => whnf); fail_if_success (show ae _ _)) | refine b8.mk (by repeat first | exact True.intro | refine And.intro (by kernel_rfl) ?_) ?_ | ((with_reducible refine EqE.idW ?_); with_reducible refine EqE.mk _ (a5 _ (by omega)) ?_) | ((with_reducible refine EqE.idS ?_); first | ((with_reducible show EqE (setAt (fa oc _) _ _) _); refine EqE.mk _ S1 ?_) | (refine EqE.fP ?_; (conv => whnf); fail_if_success (show ae _ _))) | refine Cd.ol ?_ | refine Cd.os ?_)
   exact ⟨_, ⟨vs.length + 1, vs ++ [_], rfl, by omega, by simp, hst, hfa, rfl, rfl⟩, by omega⟩
  ·obtain ⟨a0, a1⟩ := fa' (by omega)
   obtain ⟨b0, b1'⟩ := fb' (by omega)
   have L1 := ng (n := xs.length) a0 (by omega) (by omega) (ew (vs := vs) (n := xs.length) (i := a.toNat) (by omega))
   have L2 := ng (n := xs.length) b0 (by omega) (by omega) (ew (vs := vs) (n := xs.length) (i := b.toNat) (by omega))
   have pa := hp9 a.toNat (by omega)
   have pb := hp9 b.toNat (by omega)
   have na := hfit.nz a.toNat (by omega)
   have nb' := hfit.nz b.toNat (by omega)
   have hv : b9 vs ⟨5, a, b, n', ⟨b1, l1, e1, c1, k1, f1⟩⟩ z = some (df (vs.getD a.toNat (ag, ag)) (vs.getD b.toNat (ag, ag))) := rfl
   clear hpw hp9
   generalize vs.getD a.toNat (ag, ag) = p at *
   generalize vs.getD b.toNat (ag, ag) = q at *
   obtain ⟨r, hr⟩ : ∃ r, df p q = r := ⟨_, rfl⟩
   rw [hr] at hv
   have h9 := hr9 _ hv
   have ne : r.2 ≠ (0, 0) := hr ▸ kt na nb'
   have sP := acv pa pb hr
   have S1 := abb r hlt
   have T1 := qp r hlt
   have sF := my (t := true) h9 (by rw [decide_eq_false ne]; rfl)
   have hst := hstep _ hv ne
   have hfa := hfadd _ hv ne
   clear pa pb na nb' hr hr9 hstep hstop hfadd hv fa' fb' ga gb f7 f2
   obtain ⟨⟨_, _⟩, ⟨_, _⟩⟩ := p
   obtain ⟨⟨_, _⟩, ⟨_, _⟩⟩ := q
   obtain ⟨⟨_, _⟩, ⟨_, _⟩⟩ := r
   repeat' ((conv => whnf); first | with_reducible refine ah.data ?_ | refine dk.ir (ps := [(12, 5), (12, 6), (12, 7), (12, 8), (12, 9)]) rfl (by kernel_rfl) ?_ rfl | with_reducible refine Br.bt fun _ => ?_ | refine Cd.mk (bj xs _ (by omega)) ?_ | ((with_reducible show TkE (List.drop _ (List.flatMap Nd.cells _)) _ _ _); refine TkE.mk _ ((di xs vs.length hlt).trans (congrArg Nd.cells hxx)) rfl ?_) | ((with_reducible show TkE (fa oc (a9 vs _)) (0 + Int.toNat a * _) _ _); refine TkE.mk _ L1 rfl ?_) | ((with_reducible show TkE (fa oc (a9 vs _)) (0 + Int.toNat b * _) _ _); refine TkE.mk _ L2 rfl ?_) | ((with_reducible show TkE (fa oc (a9 (vs ++ _) _)) _ _ _); refine TkE.mk _ T1 rfl ?_) | refine Cd.mk (rp hlt) ?_ | refine ao.go _ _ ⟨.inl rfl, rfl, rfl, az _ _ _ _ _ _ rfl⟩ ?_ | refine aa.mk _ _ (sP) ?_ | refine aa.mk _ _ (sF) ?_ | refine rgE ?_ | refine Cd.mk rfl ?_ | refine Br.t ?_ | refine Br.f ?_ | refine ai.mk _ rfl ?_ | (refine TkE.fL ?_; (conv => whnf); fail_if_success (show ae _ _)) | refine b8.mk (by repeat first | exact True.intro | refine And.intro (by kernel_rfl) ?_) ?_ | ((with_reducible refine EqE.idW ?_); with_reducible refine EqE.mk _ (a5 _ (by omega)) ?_) | ((with_reducible refine EqE.idS ?_); first | ((with_reducible show EqE (setAt (fa oc _) _ _) _); refine EqE.mk _ S1 ?_) | (refine EqE.fP ?_; (conv => whnf); fail_if_success (show ae _ _))) | refine Cd.ol ?_ | refine Cd.os ?_)
   exact ⟨_, ⟨vs.length + 1, vs ++ [_], rfl, by omega, by simp, hst, hfa, rfl, rfl⟩, by omega⟩
  ·obtain ⟨a0, a1⟩ := fa' (by omega)
   obtain ⟨b0, b1'⟩ := fb' (by omega)
   have L1 := ng (n := xs.length) a0 (by omega) (by omega) (ew (vs := vs) (n := xs.length) (i := a.toNat) (by omega))
   have L2 := ng (n := xs.length) b0 (by omega) (by omega) (ew (vs := vs) (n := xs.length) (i := b.toNat) (by omega))
   have pa := hp9 a.toNat (by omega)
   have pb := hp9 b.toNat (by omega)
   have na := hfit.nz a.toNat (by omega)
   have nb' := hfit.nz b.toNat (by omega)
   have hv : b9 vs ⟨6, a, b, n', ⟨b1, l1, e1, c1, k1, f1⟩⟩ z = some (df (vs.getD a.toNat (ag, ag)) ((vs.getD b.toNat (ag, ag)).2, (vs.getD b.toNat (ag, ag)).1)) := rfl
   clear hpw hp9
   generalize vs.getD a.toNat (ag, ag) = p at *
   generalize vs.getD b.toNat (ag, ag) = q at *
   obtain ⟨r, hr⟩ : ∃ r, df p (q.2, q.1) = r := ⟨_, rfl⟩
   rw [hr] at hv
   have h9 := hr9 _ hv
   have sP := acv pa (q := (q.2, q.1)) ⟨pb.2, pb.1⟩ hr
   have S1 := abb r hlt
   have T1 := qp r hlt
   by_cases ne : r.2 = (0, 0)
   ·have sF := my (t := false) h9 (by rw [decide_eq_true ne]; rfl)
    have hno := hstop (show j8 vs _ z = none by unfold j8; rw [hv]; show (if r.2 = (0, 0) then none else some r) = none; rw [if_pos ne])
    rw [hno]
    clear pa pb na nb' hr hr9 hstep hstop hfadd hv fa' fb' ga gb f7 f2
    obtain ⟨⟨_, _⟩, ⟨_, _⟩⟩ := p
    obtain ⟨⟨_, _⟩, ⟨_, _⟩⟩ := q
    obtain ⟨⟨_, _⟩, ⟨_, _⟩⟩ := r
    repeat' ((conv => whnf); first | with_reducible refine ah.data ?_ | refine dk.ir (ps := [(12, 5), (12, 6), (12, 7), (12, 8), (12, 9)]) rfl (by kernel_rfl) ?_ rfl | with_reducible refine Br.bt fun _ => ?_ | refine Cd.mk (bj xs _ (by omega)) ?_ | ((with_reducible show TkE (List.drop _ (List.flatMap Nd.cells _)) _ _ _); refine TkE.mk _ ((di xs vs.length hlt).trans (congrArg Nd.cells hxx)) rfl ?_) | ((with_reducible show TkE (fa oc (a9 vs _)) (0 + Int.toNat a * _) _ _); refine TkE.mk _ L1 rfl ?_) | ((with_reducible show TkE (fa oc (a9 vs _)) (0 + Int.toNat b * _) _ _); refine TkE.mk _ L2 rfl ?_) | ((with_reducible show TkE (fa oc (a9 (vs ++ _) _)) _ _ _); refine TkE.mk _ T1 rfl ?_) | refine Cd.mk (rp hlt) ?_ | refine aa.mk _ _ (sP) ?_ | refine aa.mk _ _ (sF) ?_ | refine rgE ?_ | refine Cd.mk rfl ?_ | refine Br.t ?_ | refine Br.f ?_ | refine ai.mk _ rfl ?_ | (refine TkE.fL ?_; (conv => whnf); fail_if_success (show ae _ _)) | refine Res.mk ?_ | refine b8.mk (by repeat first | exact True.intro | refine And.intro (by kernel_rfl) ?_) ?_ | ((with_reducible refine EqE.idS ?_); first | ((with_reducible show EqE (setAt (fa oc _) _ _) _); refine EqE.mk _ S1 ?_) | (refine EqE.fP ?_; (conv => whnf); fail_if_success (show ae _ _))) | refine Cd.ol ?_ | refine Cd.os ?_)
    rw [← w8]; rfl
   ·have sF := my (t := true) h9 (by rw [decide_eq_false ne]; rfl)
    have hst := hstep _ hv ne
    have hfa := hfadd _ hv ne
    clear pa pb na nb' hr hr9 hstep hstop hfadd hv fa' fb' ga gb f7 f2
    obtain ⟨⟨_, _⟩, ⟨_, _⟩⟩ := p
    obtain ⟨⟨_, _⟩, ⟨_, _⟩⟩ := q
    obtain ⟨⟨_, _⟩, ⟨_, _⟩⟩ := r
    repeat' ((conv => whnf); first | with_reducible refine ah.data ?_ | refine dk.ir (ps := [(12, 5), (12, 6), (12, 7), (12, 8), (12, 9)]) rfl (by kernel_rfl) ?_ rfl | with_reducible refine Br.bt fun _ => ?_ | refine Cd.mk (bj xs _ (by omega)) ?_ | ((with_reducible show TkE (List.drop _ (List.flatMap Nd.cells _)) _ _ _); refine TkE.mk _ ((di xs vs.length hlt).trans (congrArg Nd.cells hxx)) rfl ?_) | ((with_reducible show TkE (fa oc (a9 vs _)) (0 + Int.toNat a * _) _ _); refine TkE.mk _ L1 rfl ?_) | ((with_reducible show TkE (fa oc (a9 vs _)) (0 + Int.toNat b * _) _ _); refine TkE.mk _ L2 rfl ?_) | ((with_reducible show TkE (fa oc (a9 (vs ++ _) _)) _ _ _); refine TkE.mk _ T1 rfl ?_) | refine Cd.mk (rp hlt) ?_ | refine ao.go _ _ ⟨.inl rfl, rfl, rfl, az _ _ _ _ _ _ rfl⟩ ?_ | refine aa.mk _ _ (sP) ?_ | refine aa.mk _ _ (sF) ?_ | refine rgE ?_ | refine Cd.mk rfl ?_ | refine Br.t ?_ | refine Br.f ?_ | refine ai.mk _ rfl ?_ | (refine TkE.fL ?_; (conv => whnf); fail_if_success (show ae _ _)) | refine b8.mk (by repeat first | exact True.intro | refine And.intro (by kernel_rfl) ?_) ?_ | ((with_reducible refine EqE.idW ?_); with_reducible refine EqE.mk _ (a5 _ (by omega)) ?_) | ((with_reducible refine EqE.idS ?_); first | ((with_reducible show EqE (setAt (fa oc _) _ _) _); refine EqE.mk _ S1 ?_) | (refine EqE.fP ?_; (conv => whnf); fail_if_success (show ae _ _))) | refine Cd.ol ?_ | refine Cd.os ?_)
    exact ⟨_, ⟨vs.length + 1, vs ++ [_], rfl, by omega, by simp, hst, hfa, rfl, rfl⟩, by omega⟩
  ·obtain ⟨a0, a1⟩ := fa' (by omega)
   have b0 := gb (by omega)
   subst b0
   obtain ⟨n0', n64⟩ := f7 rfl
   obtain ⟨N, rfl⟩ := Int.eq_ofNat_of_zero_le n0'
   have L1 := ng (n := xs.length) a0 (by omega) (by omega) (ew (vs := vs) (n := xs.length) (i := a.toNat) (by omega))
   have L2 := ng (n := xs.length) (a := 0) (by omega) (by rw [show (0 : Int).toNat = 0 from rfl]; omega) (by omega) (ew (vs := vs) (n := xs.length) (i := (0 : Int).toNat) (by rw [show (0 : Int).toNat = 0 from rfl]; omega))
   have pa := hp9 a.toNat (by omega)
   have na := hfit.nz a.toNat (by omega)
   have pw := hpw a a0 (by omega) rfl rfl
   rw [Int.toNat_natCast] at pw
   have hv : b9 vs ⟨7, a, 0, (N : Int), ⟨b1, l1, e1, c1, k1, f1⟩⟩ z = some (qw (vs.getD a.toNat (ag, ag)) N) := rfl
   clear hpw hp9
   generalize vs.getD a.toNat (ag, ag) = p at *
   generalize vs.getD (0 : Int).toNat (ag, ag) = q at *
   have ne := ajv na
   have hst := hstep _ hv (ne N)
   have hfa := hfadd _ hv (ne N)
   have S1 := abb (qw p 0) hlt
   have sF := fun j (hj : j ≤ N) => my (t := true) (pw j hj) (by rw [decide_eq_false (ne j)]; rfl)
   have sT := fun j (hj : j ≤ N) => acv (pw j hj) pa (r := qw p (j + 1)) rfl
   clear hr9 hstep hstop hfadd hv fa' ga gb f7 f2 na
   obtain ⟨⟨p1, p2⟩, ⟨p3, p4⟩⟩ := p
   obtain ⟨⟨_, _⟩, ⟨_, _⟩⟩ := q
   repeat' ((conv => whnf); first | refine dk.ir (ps := [(12, 5), (12, 6), (12, 7), (12, 8), (12, 9)]) rfl (by kernel_rfl) ?_ rfl | with_reducible refine Br.bt fun _ => ?_ | refine Cd.mk (bj xs _ (by omega)) ?_ | ((with_reducible show TkE (List.drop _ (List.flatMap Nd.cells _)) _ _ _); refine TkE.mk _ ((di xs vs.length hlt).trans (congrArg Nd.cells hxx)) rfl ?_) | ((with_reducible show TkE (fa oc (a9 vs _)) (0 + Int.toNat a * _) _ _); refine TkE.mk _ L1 rfl ?_) | ((with_reducible show TkE (fa oc (a9 vs _)) _ _ _); refine TkE.mk _ L2 rfl ?_) | refine Cd.mk (rp hlt) ?_ | refine rgE ?_ | refine Cd.mk rfl ?_ | refine Br.t ?_ | refine Br.f ?_ | refine ai.mk _ rfl ?_ | (refine TkE.fL ?_; (conv => whnf); fail_if_success (show ae _ _)) | refine b8.mk (by repeat first | exact True.intro | refine And.intro (by kernel_rfl) ?_) ?_ | ((with_reducible refine EqE.idS ?_); first | ((with_reducible show EqE (setAt (fa oc _) _ _) _); refine EqE.mk _ S1 ?_) | (refine EqE.fP ?_; (conv => whnf); fail_if_success (show ae _ _))) | refine Cd.ol ?_ | refine Cd.os ?_)
   refine ⟨[], [3, 4, 5, 7, 8, 9, 11, 23, 24, 25, 110, 111], [3, 4, 5, 7, 22, 11], fun m ys h => ∃ j : Nat, m = N - j ∧ j ≤ N ∧
     ys = [.ptr 3 0, .ptr 4 0, .ptr 5 0, .ptr 7 0, .own 22 0 xs.length 12, .d (.int .i64 vs.length), .ptr 11 0, .d (nsl xs), .d (.int .i64 xs.length), .d (.int .i64 vs.length), .d (.int .i64 N), .d (.int .i64 j)] ∧
     h = [(11, false, (oc (some ((p1, p2), (p3, p4)))).map A.d), (22, false, fa oc (a9 (vs ++ [qw ((p1, p2), (p3, p4)) j]) xs.length)), (7, false, dyC 1 ++ dyC 0), (5, false, zeA ++ zeA), (4, false, zeA ++ zeA), (3, false, [.d (.bool bz), .d (sl lz), .d (.int .i64 ez), .d (.bool cz'), .d (sl kz), .d (.int .i64 fz)])],
    ⟨_, _, _, ⟨.inl rfl, rfl, rfl, qh rfl (az _ _ _ _ _ _ rfl)⟩, 0, rfl, by omega, rfl, rfl⟩, ?_⟩
   rintro m ys h ⟨j, rfl, hj, rfl, rfl⟩
   by_cases hj2 : j < N
   ·have T1 := qp (qw ((p1, p2), (p3, p4)) j) hlt
    have T2 := qp (qw ((p1, p2), (p3, p4)) (j + 1)) hlt
    have S1 := a1x (qw ((p1, p2), (p3, p4)) (j + 1)) (qw ((p1, p2), (p3, p4)) j) hlt
    have sT' := sT j hj
    have sF' := sF (j + 1) hj2
    clear sT sF pw hst hfa ne pa
    obtain ⟨u, hu⟩ : ∃ u, qw ((p1, p2), (p3, p4)) j = u := ⟨_, rfl⟩
    obtain ⟨w, hw⟩ : ∃ w, qw ((p1, p2), (p3, p4)) (j + 1) = w := ⟨_, rfl⟩
    rw [hu] at T1 S1 sT' ⊢
    rw [hw] at T2 S1 sT' sF'
    obtain ⟨⟨_, _⟩, ⟨_, _⟩⟩ := u
    obtain ⟨⟨w1, w2⟩, ⟨w3, w4⟩⟩ := w
    repeat' ((conv => whnf); first | with_reducible refine ah.data ?_ | with_reducible refine Br.bt fun _ => ?_ | ((with_reducible show TkE (fa oc (a9 (vs ++ [((w1, w2), (w3, w4))]) _)) _ _ _); refine TkE.mk _ T2 rfl ?_) | ((with_reducible show TkE (fa oc (a9 (vs ++ _) _)) _ _ _); refine TkE.mk _ T1 rfl ?_) | refine Cd.mk (a1w _ hlt) ?_ | refine ao.go _ _ ⟨.inl rfl, rfl, rfl, qh rfl (az _ _ _ _ _ _ rfl)⟩ ?_ | refine aa.mk _ _ (sT') ?_ | refine aa.mk _ _ (sF') ?_ | refine rgE ?_ | refine Cd.mk rfl ?_ | refine Br.f ?_ | (refine TkE.fL ?_; (conv => whnf); fail_if_success (show ae _ _)) | ((with_reducible refine EqE.idW ?_); with_reducible refine EqE.mk _ (a5 _ (by omega)) ?_) | ((with_reducible refine EqE.idS ?_); ((with_reducible show EqE (setAt (fa oc _) _ _) _); refine EqE.mk _ S1 ?_)) | refine Cd.os ?_)
    exact ⟨_, ⟨j + 1, rfl, by omega, rfl, by rw [hw]; rfl⟩, by omega⟩
   ·obtain rfl : j = N := by omega
    have T1 := qp (qw ((p1, p2), (p3, p4)) j) hlt
    have sF' := sF j hj
    clear sT sF pw ne pa
    generalize qw ((p1, p2), (p3, p4)) j = u at *
    obtain ⟨⟨_, _⟩, ⟨_, _⟩⟩ := u
    repeat' ((conv => whnf); first | with_reducible refine ah.data ?_ | with_reducible refine Br.bf fun _ => ?_ | ((with_reducible show TkE (fa oc (a9 (vs ++ _) _)) _ _ _); refine TkE.mk _ T1 rfl ?_) | refine ao.go _ _ ⟨.inl rfl, rfl, rfl, az _ _ _ _ _ _ rfl⟩ ?_ | refine aa.mk _ _ (sF') ?_ | refine rgE ?_ | refine Cd.mk rfl ?_ | refine Br.f ?_ | ((with_reducible refine EqE.idW ?_); with_reducible refine EqE.mk _ (a5 _ (by omega)) ?_) | refine Cd.os ?_)
    exact ⟨_, ⟨vs.length + 1, vs ++ [_], rfl, by omega, by simp, hst, hfa, rfl, rfl⟩, by omega⟩
  ·obtain ⟨a0, a1⟩ := fa' (by omega)
   have b0 := gb (by omega)
   subst b0
   have L1 := ng (n := xs.length) a0 (by omega) (by omega) (ew (vs := vs) (n := xs.length) (i := a.toNat) (by omega))
   have L2 := ng (n := xs.length) (a := 0) (by omega) (by rw [show (0 : Int).toNat = 0 from rfl]; omega) (by omega) (ew (vs := vs) (n := xs.length) (i := (0 : Int).toNat) (by rw [show (0 : Int).toNat = 0 from rfl]; omega))
   have T1 := ng (n := xs.length) (a := ((vs.length : Nat) : Int)) (o := none) (by omega) (by rw [Int.toNat_natCast]; omega) (by omega) (asl (by rw [Int.toNat_natCast]; exact Nat.le_refl _))
   have hv : b9 vs ⟨k, a, 0, n', ⟨b1, l1, e1, c1, k1, f1⟩⟩ z = none := by
    unfold b9; dsimp only
    rw [if_neg (by omega), if_neg (by omega), if_neg (by omega), if_neg (by omega), if_neg (by omega), if_neg (by omega), if_neg (by omega)]
   have hno := hstop (show j8 vs _ z = none by unfold j8; rw [hv]; rfl)
   rw [hno]
   clear hpw hp9 hr9 hstep hstop hfadd hv fa' fb' ga gb f7 f2
   generalize vs.getD a.toNat (ag, ag) = p at *
   generalize vs.getD (0 : Int).toNat (ag, ag) = q at *
   obtain ⟨⟨_, _⟩, ⟨_, _⟩⟩ := p
   obtain ⟨⟨_, _⟩, ⟨_, _⟩⟩ := q
   have kc : k = 8 ∨ k = 9 ∨ k = 10 := by omega
   clear kk1 kk10 k8
   rcases kc with rfl | rfl | rfl
   ·repeat' ((conv => whnf); first | with_reducible refine ah.data ?_ | refine dk.ir (ps := [(12, 5), (12, 6), (12, 7), (12, 8), (12, 9)]) rfl (by kernel_rfl) ?_ rfl | with_reducible refine Br.bt fun _ => ?_ | refine Cd.mk (bj xs _ (by omega)) ?_ | ((with_reducible show TkE (List.drop _ (List.flatMap Nd.cells _)) _ _ _); refine TkE.mk _ ((di xs vs.length hlt).trans (congrArg Nd.cells hxx)) rfl ?_) | ((with_reducible show TkE (fa oc (a9 vs _)) (0 + Int.toNat a * _) _ _); refine TkE.mk _ L1 rfl ?_) | ((with_reducible show TkE (fa oc (a9 vs _)) (0 + Int.toNat (Nat.cast _) * _) _ _); refine TkE.mk _ T1 rfl ?_) | ((with_reducible show TkE (fa oc (a9 vs _)) _ _ _); refine TkE.mk _ L2 rfl ?_) | refine aa.mk _ _ (agd) ?_ | refine rgE ?_ | refine Cd.mk rfl ?_ | refine Br.t ?_ | refine Br.f ?_ | refine ai.mk _ rfl ?_ | (refine TkE.fL ?_; (conv => whnf); fail_if_success (show ae _ _)) | refine Res.mk ?_ | refine b8.mk (by repeat first | exact True.intro | refine And.intro (by kernel_rfl) ?_) ?_ | ((with_reducible refine EqE.idS ?_); (refine EqE.fP ?_; (conv => whnf); fail_if_success (show ae _ _))) | refine Cd.ol ?_ | refine Cd.os ?_)
    rw [← w8]; rfl
   ·repeat' ((conv => whnf); first | with_reducible refine ah.data ?_ | refine dk.ir (ps := [(12, 5), (12, 6), (12, 7), (12, 8), (12, 9)]) rfl (by kernel_rfl) ?_ rfl | with_reducible refine Br.bt fun _ => ?_ | refine Cd.mk (bj xs _ (by omega)) ?_ | ((with_reducible show TkE (List.drop _ (List.flatMap Nd.cells _)) _ _ _); refine TkE.mk _ ((di xs vs.length hlt).trans (congrArg Nd.cells hxx)) rfl ?_) | ((with_reducible show TkE (fa oc (a9 vs _)) (0 + Int.toNat a * _) _ _); refine TkE.mk _ L1 rfl ?_) | ((with_reducible show TkE (fa oc (a9 vs _)) (0 + Int.toNat (Nat.cast _) * _) _ _); refine TkE.mk _ T1 rfl ?_) | ((with_reducible show TkE (fa oc (a9 vs _)) _ _ _); refine TkE.mk _ L2 rfl ?_) | refine aa.mk _ _ (agd) ?_ | refine rgE ?_ | refine Cd.mk rfl ?_ | refine Br.t ?_ | refine Br.f ?_ | refine ai.mk _ rfl ?_ | (refine TkE.fL ?_; (conv => whnf); fail_if_success (show ae _ _)) | refine Res.mk ?_ | refine b8.mk (by repeat first | exact True.intro | refine And.intro (by kernel_rfl) ?_) ?_ | ((with_reducible refine EqE.idS ?_); (refine EqE.fP ?_; (conv => whnf); fail_if_success (show ae _ _))) | refine Cd.ol ?_ | refine Cd.os ?_)
    rw [← w8]; rfl
   ·repeat' ((conv => whnf); first | with_reducible refine ah.data ?_ | refine dk.ir (ps := [(12, 5), (12, 6), (12, 7), (12, 8), (12, 9)]) rfl (by kernel_rfl) ?_ rfl | with_reducible refine Br.bt fun _ => ?_ | refine Cd.mk (bj xs _ (by omega)) ?_ | ((with_reducible show TkE (List.drop _ (List.flatMap Nd.cells _)) _ _ _); refine TkE.mk _ ((di xs vs.length hlt).trans (congrArg Nd.cells hxx)) rfl ?_) | ((with_reducible show TkE (fa oc (a9 vs _)) (0 + Int.toNat a * _) _ _); refine TkE.mk _ L1 rfl ?_) | ((with_reducible show TkE (fa oc (a9 vs _)) (0 + Int.toNat (Nat.cast _) * _) _ _); refine TkE.mk _ T1 rfl ?_) | ((with_reducible show TkE (fa oc (a9 vs _)) _ _ _); refine TkE.mk _ L2 rfl ?_) | refine aa.mk _ _ (agd) ?_ | refine rgE ?_ | refine Cd.mk rfl ?_ | refine Br.t ?_ | refine Br.f ?_ | refine ai.mk _ rfl ?_ | (refine TkE.fL ?_; (conv => whnf); fail_if_success (show ae _ _)) | refine Res.mk ?_ | refine b8.mk (by repeat first | exact True.intro | refine And.intro (by kernel_rfl) ?_) ?_ | ((with_reducible refine EqE.idS ?_); (refine EqE.fP ?_; (conv => whnf); fail_if_success (show ae _ _))) | refine Cd.ol ?_ | refine Cd.os ?_)
    rw [← w8]; rfl
 ·have hin : i = xs.length := by omega
  subst hin
  have T1 := ng (n := xs.length) (vs := vs) (a := ((xs.length - 1 : Nat) : Int)) (o := some (vs.getD (xs.length - 1) (ag, ag))) (by omega) (by rw [Int.toNat_natCast]; omega) (by omega) (by rw [Int.toNat_natCast]; exact ew (by omega))
  rw [hex]
  have ek : exR (some vs) = D.tup [cxD (vs.getD (vs.length - 1) (ag, ag)).1, cxD (vs.getD (vs.length - 1) (ag, ag)).2, .bool true] := rfl
  rw [hvl] at ek
  rw [ek]
  clear ek
  generalize vs.getD (xs.length - 1) (ag, ag) = p at *
  obtain ⟨⟨_, _⟩, ⟨_, _⟩⟩ := p
  repeat' ((conv => whnf); first | refine dk.ir (ps := [(4, 2), (4, 3)]) rfl (by kernel_rfl) ?_ rfl | with_reducible refine Br.bf fun _ => ?_ | refine Cd.mk (show 0 ≤ (((xs.length - 1 : Nat) : Int)) ∧ (((xs.length - 1 : Nat) : Int)) < xs.length by omega) ?_ | ((with_reducible show TkE (fa oc (a9 vs _)) _ _ _); refine TkE.mk _ T1 rfl ?_) | refine rgE ?_ | refine Cd.mk rfl ?_ | (refine TkE.fL ?_; (conv => whnf); fail_if_success (show ae _ _)) | refine Res.mk ?_ | refine b8.mk (by repeat first | exact True.intro | refine And.intro (by kernel_rfl) ?_) ?_ | ((with_reducible refine EqE.idW ?_); refine EqE.mk ((xs.length - 1 : Nat) : Int) (by rw [ak (by omega) (by omega)]; omega) ?_) | ((with_reducible refine EqE.idS ?_); (refine EqE.fP ?_; (conv => whnf); fail_if_success (show ae _ _))) | refine Cd.ol ?_)
  rfl
end Go.Ev.Ar

namespace Go.Ev.Ar
open Go Go.Ev Go.Proofs
theorem ou (b : Bool) (l : List UInt32) (e : Int) : Sim Tryz.prog G0 true 88 [.agg [.bool b, sl l, .int .i64 e]] (.bool (xa 2 40 l e)) := by
 refine an af Tryz.func88 ?_
 repeat' ((conv => whnf); first | refine rgE ?_ | refine Cd.mk rfl ?_ | refine Br.t ?_ | refine Br.f ?_ | with_reducible refine Br.dec (fun _ => ?_) (fun _ => ?_) | refine ai.mk _ rfl ?_ | refine Res.mk ?_)
 ·rename_i h1 h2
  show D.bool _ = D.bool _
  congr 1
  unfold xa
  rw [decide_eq_true (show l.length ≤ 2 by omega), decide_eq_true (show -40 ≤ e by omega)]; rfl
 ·rename_i h1 h2
  show D.bool _ = D.bool _
  rw [afh (by omega)]
 ·rename_i h1
  show D.bool _ = D.bool _
  rw [afh (by omega)]
theorem fo (r : RC) : Sim Tryz.prog G0 true 45 [.agg r.cells] (.bool (r.few 2 40)) := by
 obtain ⟨b, l, e, c, k, f⟩ := r
 refine an af Tryz.func45 ?_
 repeat' ((conv => whnf); first | with_reducible refine ah.data ?_ | refine aa.mk _ _ (ou _ _ _) ?_ | refine rgE ?_ | refine Cd.mk rfl ?_ | refine Br.t ?_ | refine Br.f ?_ | refine Br.mk (fun _ => ?_) (fun _ => ?_) | (refine TkE.fL ?_; (conv => whnf); fail_if_success (show ae _ _)) | refine Res.mk ?_)
 all_goals
  rename_i h
  show D.bool (_ && _) = D.bool _
  rw [h]; rfl
theorem avq (xs : List Nd) (i : Nat) (h : i < xs.length) : ((((xs.flatMap Nd.cells).drop ((i : Int).toNat * 10)).drop 4).drop 0).take 6 = (xs.getD i Nd.nil).r.cells := by
 have k := di xs i h
 rw [List.drop_zero] at k ⊢
 generalize (xs.flatMap Nd.cells).drop ((i : Int).toNat * 10) = l at *
 have : (l.drop 4).take 6 = (l.take 10).drop 4 := by rw [List.drop_take]
 rw [this, k]; rfl
def ns (xs : List Nd) : Bool := (xs.all fun x => x.r.few 2 40) && decide (xs.length ≤ 45)
theorem xb (xs : List Nd) (hn : xs.length < 2^62) : Sim Tryz.prog G0 true 44 [nsl xs] (.bool (ns xs)) := by
 refine an af Tryz.func44 ?_
 repeat' ((conv => whnf); first | refine rgE ?_)
 refine ⟨[], [0, 3], [], fun m ys h => ∃ (i : Nat), m = xs.length - i ∧ i ≤ xs.length ∧ (∀ j, j < i → (xs.getD j Nd.nil).r.few 2 40 = true) ∧ ys = [.d (nsl xs), .d (.int .i64 i)] ∧ h = [],
  ⟨_, _, _, ⟨.inl rfl, rfl, rfl, by first | rfl | (repeat first | exact all_nil _ | refine bn _ _ _ _ _ ?_)⟩, 0, rfl, by omega, fun j hj => absurd hj (by omega), rfl, rfl⟩, ?_⟩
 rintro m ys h ⟨i, rfl, hi, hall, rfl, rfl⟩
 by_cases hlt : i < xs.length
 ·have s := fo (xs.getD i Nd.nil).r
  obtain ⟨t, ht⟩ : ∃ t, (xs.getD i Nd.nil).r.few 2 40 = t := ⟨_, rfl⟩
  rw [ht] at s
  have T1 := avq xs i hlt
  generalize hr : (xs.getD i Nd.nil).r = r at *
  obtain ⟨b1, l1, e1, c1, k1, f1⟩ := r
  cases t
  ·have no : ns xs = false := by
    unfold ns
    rw [Bool.and_eq_false_iff]; left
    rw [List.all_eq_false]
    exact ⟨xs.getD i Nd.nil, by simp [hlt], by rw [hr, ht]; decide⟩
   repeat' ((conv => whnf); first | with_reducible refine ah.data ?_ | with_reducible refine Br.bt fun _ => ?_ | refine aa.mk _ _ (s) ?_ | refine Cd.mk (bj xs _ (by omega)) ?_ | refine TkE.mk _ T1 rfl ?_ | refine rgE ?_ | refine Cd.mk rfl ?_ | refine Br.t ?_ | refine Res.mk ?_)
   show D.bool _ = D.bool _; rw [no]
  ·repeat' ((conv => whnf); first | with_reducible refine ah.data ?_ | with_reducible refine Br.bt fun _ => ?_ | refine aa.mk _ _ (s) ?_ | refine Cd.mk (bj xs _ (by omega)) ?_ | refine TkE.mk _ T1 rfl ?_ | refine rgE ?_ | refine Cd.mk rfl ?_ | refine Br.f ?_ | refine ao.cu _ _ ?_ | ((with_reducible refine EqE.idW ?_); with_reducible refine EqE.mk _ (a5 _ (by omega)) ?_))
   exact ⟨_, ⟨i + 1, rfl, by omega, fun j hj => by
    rcases Nat.lt_succ_iff_lt_or_eq.1 hj with g | rfl
    ·exact hall j g
    ·rw [hr]; exact ht, rfl, rfl⟩, by omega⟩
 ·repeat' ((conv => whnf); first | with_reducible refine Br.bf fun _ => ?_ | refine rgE ?_ | refine Cd.mk rfl ?_ | refine Res.mk ?_)
  have : (xs.all fun x => x.r.few 2 40) = true := List.all_eq_true.2 fun x hx => by
   obtain ⟨j, hj, rfl⟩ := List.mem_iff_getElem.1 hx
   have := hall j (by omega)
   rwa [List.getD_eq_getElem?_getD, List.getElem?_eq_getElem hj] at this
  show D.bool _ = D.bool _
  unfold ns
  rw [this, Bool.true_and]
  exact congrArg D.bool (decide_eq_decide.2 (by omega))
def iC (s : Int) : List D := [.int .i64 s]
theorem ai8 (s : Int) : (iC s).length = 1 := rfl
def lj (ss : List Int) (n : Nat) : List Int := ss ++ List.replicate (n - ss.length) 0
theorem agf {ss : List Int} {n : Nat} (h : ss.length ≤ n) : (lj ss n).length = n := by unfold lj; simp; omega
theorem al8 (n : Nat) : jv (n : Int).toNat (ow [.int .i64]) = fa iC (lj [] n) := by
 rw [Int.toNat_natCast]
 unfold lj fa jv
 rw [List.nil_append, List.length_nil, Nat.sub_zero]
 induction n with
 | zero => rfl
 | succ n ih => rw [List.replicate_succ, List.replicate_succ, List.flatten_cons, List.flatMap_cons, List.map_append, ih]; rfl
theorem apt (ss : List Int) (i : Nat) (h : i < ss.length) : (fa iC ss)[i]? = some (.d (.int .i64 (ss.getD i 0))) := by
 have e : ∀ ss : List Int, fa iC ss = ss.map fun s => A.d (.int .i64 s) := fun ss => by
  unfold fa
  clear h
  induction ss with
  | nil => rfl
  | cons s ss ih => rw [List.flatMap_cons, List.map_append, List.map_cons, ih]; rfl
 rw [e, List.getElem?_map, List.getElem?_eq_getElem h]; simp [h]
theorem aww {ss : List Int} {n i : Nat} (h : i < ss.length) : (lj ss n).getD i 0 = ss.getD i 0 := by
 unfold lj
 rw [List.getD_eq_getElem?_getD, List.getElem?_append_left h, List.getD_eq_getElem?_getD]
theorem awx {ss : List Int} {n : Nat} (r : Int) (h : ss.length < n) : (lj ss n).set ss.length r = lj (ss ++ [r]) n := by
 unfold lj
 rw [List.set_append_right _ _ (by simp), Nat.sub_self, List.append_assoc, List.length_append, show n - ss.length = (n - (ss.length + 1)) + 1 by omega, List.replicate_succ]
 rfl
theorem ak0 {ss : List Int} {n : Nat} {a : Int} (h0 : 0 ≤ a) (h1 : a.toNat < ss.length) (hv : ss.length ≤ n) : (fa iC (lj ss n))[0 + a.toNat * 1]? = some (.d (.int .i64 (ss.getD a.toNat 0))) := by
 rw [Nat.zero_add, Nat.mul_one, apt _ _ (by rw [agf hv]; omega), aww h1]
theorem a2x {ss : List Int} {n : Nat} (r : Int) (h : ss.length < n) : setAt (fa iC (lj ss n)) (0 + ((ss.length : Nat) : Int).toNat * 1) [.d (.int .i64 r)] = fa iC (lj (ss ++ [r]) n) := by
 have := afg (f := iC) (k := 1) ai8 (lj ss n) ss.length r (by rw [agf (by omega)]; exact h)
 rw [awx r h] at this; exact this
theorem a1f {ss : List Int} {n : Nat} (r : Int) (h : ss.length < n) : (fa iC (lj (ss ++ [r]) n))[0 + ((ss.length : Nat) : Int).toNat * 1]? = some (.d (.int .i64 r)) := by
 have := ak0 (ss := ss ++ [r]) (n := n) (a := ((ss.length : Nat) : Int)) (by omega) (by rw [Int.toNat_natCast]; simp) (by simp; omega)
 rw [this, Int.toNat_natCast, gj]
theorem a2w {ss : List Int} {n : Nat} (h : ss.length < n) : 0 + ((ss.length : Nat) : Int).toNat * 1 + 1 ≤ (fa iC (lj ss n)).length := by rw [nn ai8, agf (by omega), Int.toNat_natCast]; omega
def axh (xs : List Nd) (i : Nat) : Prop := ∀ j, j < i → ik (szL xs j) (xs.getD j Nd.nil) j ≤ 60
theorem yx (xs : List Nd) : ∀ i j, j < i → (szL xs i).getD j 0 = ik (szL xs j) (xs.getD j Nd.nil) j
 | i + 1, j, h => by
  rw [szL]
  rcases Nat.lt_succ_iff_lt_or_eq.1 h with g | rfl
  ·rw [n7 (by rw [yy]; exact g)]; exact yx xs i j g
  ·have := yy xs j
   rw [List.getD_eq_getElem?_getD, List.getElem?_append_right (by omega), this, Nat.sub_self]; rfl
theorem axg {xs : List Nd} {i : Nat} (h : axh xs i) : ∀ j, j < i → 1 ≤ (szL xs i).getD j 0 ∧ (szL xs i).getD j 0 ≤ 60 := by
 intro j
 induction j using Nat.strongRecOn with
 | ind j ih =>
  intro hj
  rw [yx xs i j hj]
  refine ⟨?_, h j hj⟩
  have p : ∀ a : Int, inA a j = true → 1 ≤ (szL xs j).getD a.toNat 0 := fun a ha => by
   have ha := gg.1 ha
   have := (ih a.toNat (by omega) (by omega)).1
   rw [yx xs i _ (by omega)] at this
   rwa [yx xs j _ (by omega)]
  unfold ik
  split
  ·rename_i g
   have := p _ g.2
   have m : 1 ≤ max 1 (min (xs.getD j Nd.nil).n 64) := by omega
   generalize max 1 (min (xs.getD j Nd.nil).n 64) = v at *
   have := Int.mul_nonneg (show 0 ≤ (szL xs j).getD (xs.getD j Nd.nil).a.toNat 0 by omega) (show 0 ≤ v by omega)
   omega
  ·split
   ·rename_i g
    have := p _ g.2.1
    have := p _ g.2.2
    omega
   ·split
    ·rename_i g
     have := p _ g.2
     omega
    ·omega
theorem aah {xs : List Nd} : adr xs = false ↔ axh xs xs.length := by
 unfold adr axh
 rw [List.any_eq_false]
 constructor
 ·intro h j hj
  have := h ((szL xs xs.length).getD j 0) (by
   have l := yy xs xs.length
   simp [show j < (szL xs xs.length).length by omega])
  rw [yx xs _ j hj] at this
  simpa using this
 ·intro h s hs
  obtain ⟨j, hj, rfl⟩ := List.mem_iff_getElem.1 hs
  have l := yy xs xs.length
  have := h j (by omega)
  rw [← yx xs xs.length j (by omega)] at this
  rw [List.getD_eq_getElem?_getD, List.getElem?_eq_getElem hj] at this
  simpa using this
end Go.Ev.Ar
