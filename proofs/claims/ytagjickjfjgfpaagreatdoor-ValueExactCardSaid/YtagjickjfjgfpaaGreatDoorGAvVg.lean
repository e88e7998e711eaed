/- Contracts of the given functions, on data. Conditions stand in each theorem. -/
import Derived.Test.YtagjickjfjgfpaaGreatDoorGEvR
import Derived.Test.YtagjickjfjgfpaaGreatDoorGAvVe
set_option linter.unusedSimpArgs false
set_option linter.unusedVariables false
namespace Go.Ev.Ar
open Go Go.Ev Go.Proofs
theorem atp {xs : List Nd} {i : Nat} (hi : i < xs.length) (h : ik (szL xs i) (xs.getD i Nd.nil) i > 60) : adr xs = true := by
 rw [← Bool.not_eq_false]
 intro g
 have := aah.1 g i hi
 omega
set_option maxRecDepth 10000 in
set_option maxHeartbeats 8000000 in
theorem aai (xs : List Nd) (hn : xs.length ≤ 45) : Sim Tryz.prog G0 true 46 [nsl xs] (.bool (adr xs)) := by
 refine an af Tryz.func46 ?_
 repeat' ((conv => whnf); first | refine EqE.mk _ (al8 xs.length) ?_ | refine rgE ?_ | refine Cd.mk rfl ?_ | refine Cd.os ?_)
 refine ⟨[], [0, 3, 4], [8], fun m ys h => ∃ (i : Nat), m = xs.length - i ∧ i ≤ xs.length ∧ axh xs i ∧
   ys = [.d (nsl xs), .own 8 0 xs.length 1, .d (.int .i64 i)] ∧ h = [(8, false, fa iC (lj (szL xs i) xs.length))],
  ⟨_, _, _, ⟨.inl rfl, rfl, rfl, az _ _ _ _ _ _ rfl⟩, 0, rfl, by omega, fun j hj => absurd hj (by omega), rfl, rfl⟩, ?_⟩
 rintro m ys h ⟨i, rfl, hi, hok, rfl, rfl⟩
 by_cases hlt : i < xs.length
 ·have hpos := axg hok
  have hl := yy xs i
  have hbig := fun h => atp hlt h
  have hnx : szL xs (i + 1) = szL xs i ++ [ik (szL xs i) (xs.getD i Nd.nil) i] := rfl
  have hadd : ¬ ik (szL xs i) (xs.getD i Nd.nil) i > 60 → axh xs (i + 1) := fun h j hj => by
   rcases Nat.lt_succ_iff_lt_or_eq.1 hj with g | rfl
   ·exact hok j g
   ·omega
  generalize hss : szL xs i = ss at *
  generalize hxx : xs.getD i Nd.nil = x at *
  have T1 := (di xs i hlt).trans (congrArg Nd.cells hxx)
  obtain ⟨k, a, b, n', ⟨b1, l1, e1, c1, k1, f1⟩⟩ := x
  subst hl
  have hla : ∀ a : Int, 0 ≤ a → a < ss.length → 1 ≤ ss.getD a.toNat 0 ∧ ss.getD a.toNat 0 ≤ 60 := fun a h1 h2 => hpos a.toNat (by omega)
  obtain ⟨s, hs⟩ : ∃ s, ik ss ⟨k, a, b, n', ⟨b1, l1, e1, c1, k1, f1⟩⟩ ss.length = s := ⟨_, rfl⟩
  rw [hs] at hbig hadd hnx
  have S1 := a2x s hlt
  have N3 := a1f s hlt
  have LE := a2w hlt
  rw [← hnx] at S1 N3
  by_cases q1 : k = 7 ∧ 0 ≤ a ∧ a < ss.length
  ·have e : s = ss.getD a.toNat 0 * max 1 (min n' 64) + 1 := by
    rw [← hs]; unfold ik; rw [if_pos ⟨q1.1, gg.2 q1.2⟩]
   have N1 := ak0 (ss := ss) (n := xs.length) q1.2.1 (by omega) (by omega)
   have la := hla a q1.2.1 q1.2.2
   generalize ss.getD a.toNat 0 = u at *
   obtain ⟨v, hv⟩ : ∃ v, max 1 (min n' 64) = v := ⟨_, rfl⟩
   have v1 : 1 ≤ v ∧ v ≤ 64 := by omega
   rw [hv] at e
   have hp : 0 ≤ u * v ∧ u * v ≤ 3840 := by
    have a1 := Int.mul_nonneg (show 0 ≤ u by omega) (show 0 ≤ v by omega)
    have a2 := Int.mul_le_mul (show u ≤ 60 by omega) (show v ≤ 64 by omega) (by omega) (by omega)
    omega
   obtain ⟨w, hw⟩ : ∃ w, u * v = w := ⟨_, rfl⟩
   rw [hw] at hp e
   by_cases g : s > 60
   ·have hb := hbig g
    rw [hb]
    repeat' ((conv => whnf); first | ((with_reducible refine Br.jm ?hpp ?_); case hpp => first | omega | (dsimp only; omega)) | refine Cd.mk (bj xs _ (by omega)) ?_ | ((with_reducible show TkE (List.drop _ (List.flatMap Nd.cells _)) _ _ _); refine TkE.mk _ T1 rfl ?_) | ((with_reducible show ai (fa iC (lj ss _)) _ _); refine ai.mk _ N1 ?_) | ((with_reducible show ai (fa iC (lj (szL _ _) _)) _ _); refine ai.mk _ N3 ?_) | refine Cd.mk LE ?_ | refine rgE ?_ | refine Cd.mk rfl ?_ | refine Br.t ?_ | refine ai.mk _ rfl ?_ | refine Res.mk ?_ | ((with_reducible refine EqE.idW ?_); first | refine EqE.mk w ((ak (by rw [hw]; omega) (by rw [hw]; omega)).trans hw) ?_ | refine EqE.mk s ((ak (by omega) (by omega)).trans e.symm) ?_) | ((with_reducible refine EqE.idI ?_); first | refine EqE.mk v ((max_eq _ _).trans hv) ?_ | refine EqE.mk _ (min_eq _ _) ?_) | ((with_reducible refine EqE.idS ?_); first | ((with_reducible show EqE (setAt (fa iC _) _ _) _); refine EqE.mk _ S1 ?_) | (refine EqE.fP ?_; (conv => whnf); fail_if_success (show ae _ _))) | refine Cd.ol ?_ | refine Cd.os ?_)
    rfl
   ·have ha := hadd g
    repeat' ((conv => whnf); first | ((with_reducible refine Br.jm ?hpp ?_); case hpp => first | omega | (dsimp only; omega)) | ((with_reducible refine Br.dq ?hpp ?_); case hpp => first | omega | (dsimp only; omega)) | refine Cd.mk (bj xs _ (by omega)) ?_ | ((with_reducible show TkE (List.drop _ (List.flatMap Nd.cells _)) _ _ _); refine TkE.mk _ T1 rfl ?_) | ((with_reducible show ai (fa iC (lj ss _)) _ _); refine ai.mk _ N1 ?_) | ((with_reducible show ai (fa iC (lj (szL _ _) _)) _ _); refine ai.mk _ N3 ?_) | refine Cd.mk LE ?_ | refine ao.go _ _ ⟨.inl rfl, rfl, rfl, az _ _ _ _ _ _ rfl⟩ ?_ | refine rgE ?_ | refine Cd.mk rfl ?_ | refine Br.t ?_ | refine ai.mk _ rfl ?_ | ((with_reducible refine EqE.idW ?_); first | refine EqE.mk w ((ak (by rw [hw]; omega) (by rw [hw]; omega)).trans hw) ?_ | refine EqE.mk s ((ak (by omega) (by omega)).trans e.symm) ?_ | with_reducible refine EqE.mk _ (a5 _ (by omega)) ?_) | ((with_reducible refine EqE.idI ?_); first | refine EqE.mk v ((max_eq _ _).trans hv) ?_ | refine EqE.mk _ (min_eq _ _) ?_) | ((with_reducible refine EqE.idS ?_); first | ((with_reducible show EqE (setAt (fa iC _) _ _) _); refine EqE.mk _ S1 ?_) | (refine EqE.fP ?_; (conv => whnf); fail_if_success (show ae _ _))) | refine Cd.ol ?_ | refine Cd.os ?_)
    exact ⟨_, ⟨ss.length + 1, rfl, by omega, ha, rfl, rfl⟩, by omega⟩
  by_cases q2 : (3 ≤ k ∧ k ≤ 6) ∧ (0 ≤ a ∧ a < ss.length) ∧ (0 ≤ b ∧ b < ss.length)
  ·have e : s = ss.getD a.toNat 0 + ss.getD b.toNat 0 + 1 := by
    rw [← hs]; unfold ik; rw [if_neg (fun h => by have := h.1; dsimp only at this; omega), if_pos ⟨q2.1, gg.2 q2.2.1, gg.2 q2.2.2⟩]
   have N1 := ak0 (ss := ss) (n := xs.length) q2.2.1.1 (by omega) (by omega)
   have N2 := ak0 (ss := ss) (n := xs.length) q2.2.2.1 (by omega) (by omega)
   have la := hla a q2.2.1.1 q2.2.1.2
   have lb := hla b q2.2.2.1 q2.2.2.2
   generalize ss.getD a.toNat 0 = u at *
   generalize ss.getD b.toNat 0 = v at *
   by_cases g : s > 60
   ·have hb := hbig g
    rw [hb]
    repeat' ((conv => whnf); first | ((with_reducible refine Br.jm ?hpp ?_); case hpp => first | omega | (dsimp only; omega)) | ((with_reducible refine Br.dq ?hpp ?_); case hpp => first | omega | (dsimp only; omega)) | refine Cd.mk (bj xs _ (by omega)) ?_ | ((with_reducible show TkE (List.drop _ (List.flatMap Nd.cells _)) _ _ _); refine TkE.mk _ T1 rfl ?_) | ((with_reducible show ai (fa iC (lj ss _)) (0 + Int.toNat a * _) _); refine ai.mk _ N1 ?_) | ((with_reducible show ai (fa iC (lj ss _)) (0 + Int.toNat b * _) _); refine ai.mk _ N2 ?_) | ((with_reducible show ai (fa iC (lj (szL _ _) _)) _ _); refine ai.mk _ N3 ?_) | refine Cd.mk LE ?_ | refine rgE ?_ | refine Cd.mk rfl ?_ | refine Br.t ?_ | refine Br.f ?_ | refine ai.mk _ rfl ?_ | refine Res.mk ?_ | ((with_reducible refine EqE.idW ?_); first | refine EqE.mk (u + v) (ak (by omega) (by omega)) ?_ | refine EqE.mk s ((ak (by omega) (by omega)).trans e.symm) ?_) | ((with_reducible refine EqE.idS ?_); first | ((with_reducible show EqE (setAt (fa iC _) _ _) _); refine EqE.mk _ S1 ?_) | (refine EqE.fP ?_; (conv => whnf); fail_if_success (show ae _ _))) | refine Cd.ol ?_ | refine Cd.os ?_)
    rfl
   ·have ha := hadd g
    repeat' ((conv => whnf); first | ((with_reducible refine Br.jm ?hpp ?_); case hpp => first | omega | (dsimp only; omega)) | ((with_reducible refine Br.dq ?hpp ?_); case hpp => first | omega | (dsimp only; omega)) | refine Cd.mk (bj xs _ (by omega)) ?_ | ((with_reducible show TkE (List.drop _ (List.flatMap Nd.cells _)) _ _ _); refine TkE.mk _ T1 rfl ?_) | ((with_reducible show ai (fa iC (lj ss _)) (0 + Int.toNat a * _) _); refine ai.mk _ N1 ?_) | ((with_reducible show ai (fa iC (lj ss _)) (0 + Int.toNat b * _) _); refine ai.mk _ N2 ?_) | ((with_reducible show ai (fa iC (lj (szL _ _) _)) _ _); refine ai.mk _ N3 ?_) | refine Cd.mk LE ?_ | refine ao.go _ _ ⟨.inl rfl, rfl, rfl, az _ _ _ _ _ _ rfl⟩ ?_ | refine rgE ?_ | refine Cd.mk rfl ?_ | refine Br.t ?_ | refine Br.f ?_ | refine ai.mk _ rfl ?_ | ((with_reducible refine EqE.idW ?_); first | refine EqE.mk (u + v) (ak (by omega) (by omega)) ?_ | refine EqE.mk s ((ak (by omega) (by omega)).trans e.symm) ?_ | with_reducible refine EqE.mk _ (a5 _ (by omega)) ?_) | ((with_reducible refine EqE.idS ?_); first | ((with_reducible show EqE (setAt (fa iC _) _ _) _); refine EqE.mk _ S1 ?_) | (refine EqE.fP ?_; (conv => whnf); fail_if_success (show ae _ _))) | refine Cd.ol ?_ | refine Cd.os ?_)
    exact ⟨_, ⟨ss.length + 1, rfl, by omega, ha, rfl, rfl⟩, by omega⟩
  by_cases q3 : 8 ≤ k ∧ 0 ≤ a ∧ a < ss.length
  ·have e : s = ss.getD a.toNat 0 + 1 := by
    rw [← hs]; unfold ik
    rw [if_neg (fun h => by have := h.1; dsimp only at this; omega), if_neg (fun h => by have := h.1; dsimp only at this; omega), if_pos ⟨q3.1, gg.2 q3.2⟩]
   have N1 := ak0 (ss := ss) (n := xs.length) q3.2.1 (by omega) (by omega)
   have la := hla a q3.2.1 q3.2.2
   generalize ss.getD a.toNat 0 = u at *
   by_cases g : s > 60
   ·have hb := hbig g
    rw [hb]
    repeat' ((conv => whnf); first | ((with_reducible refine Br.jm ?hpp ?_); case hpp => first | omega | (dsimp only; omega)) | ((with_reducible refine Br.dq ?hpp ?_); case hpp => first | omega | (dsimp only; omega)) | refine Cd.mk (bj xs _ (by omega)) ?_ | ((with_reducible show TkE (List.drop _ (List.flatMap Nd.cells _)) _ _ _); refine TkE.mk _ T1 rfl ?_) | ((with_reducible show ai (fa iC (lj ss _)) _ _); refine ai.mk _ N1 ?_) | ((with_reducible show ai (fa iC (lj (szL _ _) _)) _ _); refine ai.mk _ N3 ?_) | refine Cd.mk LE ?_ | refine rgE ?_ | refine Cd.mk rfl ?_ | refine Br.t ?_ | refine Br.f ?_ | refine ai.mk _ rfl ?_ | refine Res.mk ?_ | ((with_reducible refine EqE.idW ?_); refine EqE.mk s ((ak (by omega) (by omega)).trans e.symm) ?_) | ((with_reducible refine EqE.idS ?_); first | ((with_reducible show EqE (setAt (fa iC _) _ _) _); refine EqE.mk _ S1 ?_) | (refine EqE.fP ?_; (conv => whnf); fail_if_success (show ae _ _))) | refine Cd.ol ?_ | refine Cd.os ?_)
    rfl
   ·have ha := hadd g
    repeat' ((conv => whnf); first | ((with_reducible refine Br.jm ?hpp ?_); case hpp => first | omega | (dsimp only; omega)) | ((with_reducible refine Br.dq ?hpp ?_); case hpp => first | omega | (dsimp only; omega)) | refine Cd.mk (bj xs _ (by omega)) ?_ | ((with_reducible show TkE (List.drop _ (List.flatMap Nd.cells _)) _ _ _); refine TkE.mk _ T1 rfl ?_) | ((with_reducible show ai (fa iC (lj ss _)) _ _); refine ai.mk _ N1 ?_) | ((with_reducible show ai (fa iC (lj (szL _ _) _)) _ _); refine ai.mk _ N3 ?_) | refine Cd.mk LE ?_ | refine ao.go _ _ ⟨.inl rfl, rfl, rfl, az _ _ _ _ _ _ rfl⟩ ?_ | refine rgE ?_ | refine Cd.mk rfl ?_ | refine Br.t ?_ | refine Br.f ?_ | refine ai.mk _ rfl ?_ | ((with_reducible refine EqE.idW ?_); first | refine EqE.mk s ((ak (by omega) (by omega)).trans e.symm) ?_ | with_reducible refine EqE.mk _ (a5 _ (by omega)) ?_) | ((with_reducible refine EqE.idS ?_); first | ((with_reducible show EqE (setAt (fa iC _) _ _) _); refine EqE.mk _ S1 ?_) | (refine EqE.fP ?_; (conv => whnf); fail_if_success (show ae _ _))) | refine Cd.ol ?_ | refine Cd.os ?_)
    exact ⟨_, ⟨ss.length + 1, rfl, by omega, ha, rfl, rfl⟩, by omega⟩
  have e : s = 1 := by
   rw [← hs]; unfold ik
   rw [if_neg (fun h => q1 ⟨h.1, gg.1 h.2⟩), if_neg (fun h => q2 ⟨h.1, gg.1 h.2.1, gg.1 h.2.2⟩), if_neg (fun h => q3 ⟨h.1, gg.1 h.2⟩)]
  have ha := hadd (by omega)
  subst e
  repeat' ((conv => whnf); first | ((with_reducible refine Br.jm ?hpp ?_); case hpp => first | omega | (dsimp only; omega)) | ((with_reducible refine Br.dq ?hpp ?_); case hpp => first | omega | (dsimp only; omega)) | refine Cd.mk (bj xs _ (by omega)) ?_ | ((with_reducible show TkE (List.drop _ (List.flatMap Nd.cells _)) _ _ _); refine TkE.mk _ T1 rfl ?_) | ((with_reducible show ai (fa iC (lj (szL _ _) _)) _ _); refine ai.mk _ N3 ?_) | refine Cd.mk LE ?_ | refine ao.go _ _ ⟨.inl rfl, rfl, rfl, az _ _ _ _ _ _ rfl⟩ ?_ | refine rgE ?_ | refine Cd.mk rfl ?_ | refine Br.t ?_ | refine Br.f ?_ | with_reducible refine Br.dec (fun _ => ?_) (fun _ => ?_) | refine ai.mk _ rfl ?_ | ((with_reducible refine EqE.idW ?_); with_reducible refine EqE.mk _ (a5 _ (by omega)) ?_) | ((with_reducible refine EqE.idS ?_); first | ((with_reducible show EqE (setAt (fa iC _) _ _) _); refine EqE.mk _ S1 ?_) | (refine EqE.fP ?_; (conv => whnf); fail_if_success (show ae _ _))) | refine Cd.ol ?_ | refine Cd.os ?_)
  all_goals first | exact ⟨_, ⟨ss.length + 1, rfl, by omega, ha, rfl, rfl⟩, by omega⟩ | (exfalso; dsimp only at *; omega)
 ·have hin : i = xs.length := by omega
  subst hin
  repeat' ((conv => whnf); first | ((with_reducible refine Br.dq ?hpp ?_); case hpp => first | omega | (dsimp only; omega)) | refine rgE ?_ | refine Cd.mk rfl ?_ | refine Res.mk ?_)
  rw [aah.2 hok]
  rfl
end Go.Ev.Ar

namespace Go.Ev.Ar
open Go Go.Ev Go.Proofs
set_option maxHeartbeats 4000000 in
theorem asi (r : RC) : Sim Tryz.prog G0 true 102 [.agg [.bool r.b, sl r.l, .int .i64 r.e, .bool r.c, sl r.k, .int .i64 r.f]] (.bool (noC r)) := by
 obtain ⟨b1, l1, e1, c1, k1, f1⟩ := r
 have e : noC ⟨b1, l1, e1, c1, k1, f1⟩ = (decide (l1.length = 0) && decide (k1.length = 0) && !b1 && !c1 && decide (e1 = 0) && decide (f1 = 0)) := rfl
 rw [e]
 clear e
 refine an af Tryz.func102 ?_
 repeat' ((conv => whnf); first | refine rgE ?_ | refine Cd.mk rfl ?_ | refine Br.t ?_ | refine Br.f ?_ | with_reducible refine Br.dec (fun _ => ?_) (fun _ => ?_) | refine Br.mk (fun _ => ?_) (fun _ => ?_) | refine ai.mk _ rfl ?_ | refine Res.mk ?_)
 all_goals
  show D.bool _ = D.bool _
  refine congrArg D.bool ?_
  grind
set_option maxHeartbeats 4000000 in
theorem asd (r : RC) (h1 : r.l.length ≤ 4194304) (h2 : r.k.length ≤ 4194304) : Sim Tryz.prog G0 true 103 [.agg [.bool r.b, sl r.l, .int .i64 r.e, .bool r.c, sl r.k, .int .i64 r.f]] (.bool (fy r.b r.l r.e && fy r.c r.k r.f)) := by
 obtain ⟨b1, l1, e1, c1, k1, f1⟩ := r
 have d1 := yw b1 l1 e1 h1
 have d2 := yw c1 k1 f1 h2
 dsimp only
 obtain ⟨u1, hu1⟩ : ∃ t, fy b1 l1 e1 = t := ⟨_, rfl⟩
 obtain ⟨u2, hu2⟩ : ∃ t, fy c1 k1 f1 = t := ⟨_, rfl⟩
 rw [hu1] at d1 ⊢
 rw [hu2] at d2 ⊢
 refine an af Tryz.func103 ?_
 cases u1
 ·repeat' ((conv => whnf); first | with_reducible refine ah.data ?_ | refine aa.mk _ _ (d1) ?_ | refine rgE ?_ | refine Cd.mk rfl ?_ | refine Br.f ?_ | (refine TkE.fL ?_; (conv => whnf); fail_if_success (show ae _ _)) | refine Res.mk ?_)
  all_goals rfl
 ·repeat' ((conv => whnf); first | with_reducible refine ah.data ?_ | refine aa.mk _ _ (d1) ?_ | refine aa.mk _ _ (d2) ?_ | refine rgE ?_ | refine Cd.mk rfl ?_ | refine Br.t ?_ | (refine TkE.fL ?_; (conv => whnf); fail_if_success (show ae _ _)) | refine Res.mk ?_)
  all_goals rfl
theorem a1v {r : RC} (h : noC r = true) : fy r.b r.l r.e = true ∧ fy r.c r.k r.f = true := by
 obtain ⟨b1, l1, e1, c1, k1, f1⟩ := r
 unfold noC at h
 simp only [Bool.and_eq_true, decide_eq_true_eq, Bool.not_eq_true', List.length_eq_zero_iff] at h
 obtain ⟨⟨⟨⟨⟨rfl, rfl⟩, rfl⟩, rfl⟩, rfl⟩, rfl⟩ := h
 exact ⟨rfl, rfl⟩
theorem au3 (x : Nd) (i : Int) : k9 x i =
    (if x.k = 1 then decide (x.a = 0) && decide (x.b = 0) && decide (x.n = 0) && noC x.r
     else if x.k = 2 then decide (x.a = 0) && decide (x.b = 0) && decide (x.n = 0) && (fy x.r.b x.r.l x.r.e && fy x.r.c x.r.k x.r.f)
     else if 3 ≤ x.k ∧ x.k ≤ 6 then decide (0 ≤ x.a ∧ x.a < i) && decide (0 ≤ x.b ∧ x.b < i) && decide (x.n = 0) && noC x.r
     else if x.k = 7 then decide (0 ≤ x.a ∧ x.a < i) && decide (x.b = 0) && decide (0 ≤ x.n ∧ x.n ≤ 64) && noC x.r
     else if 8 ≤ x.k ∧ x.k ≤ 10 then decide (0 ≤ x.a ∧ x.a < i) && decide (x.b = 0) && decide (x.n = 0) && noC x.r
     else false) := by
  have h := @a1v x.r
  unfold k9 blB
  generalize noC x.r = u at *
  generalize fy x.r.b x.r.l x.r.e = v at *
  generalize fy x.r.c x.r.k x.r.f = w at *
  grind
set_option maxRecDepth 10000 in
set_option maxHeartbeats 16000000 in
theorem yv (xs : List Nd) (hn : xs.length < 2^62) (hl : ∀ x ∈ xs, x.r.l.length ≤ 4194304 ∧ x.r.k.length ≤ 4194304) : Sim Tryz.prog G0 true 53 [nsl xs] (.bool (gu xs)) := by
 refine an af Tryz.func53 ?_
 by_cases hlen : 0 < xs.length ∧ xs.length ≤ 40
 rotate_left
 ·have e : gu xs = false := by
   unfold gu
   rw [Bool.and_eq_false_iff]; left
   rw [← Bool.decide_and]
   exact decide_eq_false hlen
  rw [e]
  repeat' ((conv => whnf); first | refine rgE ?_ | refine Cd.mk rfl ?_ | refine Br.t ?_ | refine Br.f ?_ | with_reducible refine Br.dec (fun _ => ?_) (fun _ => ?_) | refine Res.mk ?_)
  all_goals first | rfl | (exfalso; omega)
 obtain ⟨hl0, hl40⟩ := hlen
 repeat' ((conv => whnf); first | ((with_reducible refine Br.dq ?hpp ?_); case hpp => first | omega | (dsimp only; omega)) | refine rgE ?_ | refine Cd.mk rfl ?_ | refine Br.f ?_)
 refine ⟨[], [0, 3], [], fun m ys h => ∃ (i : Nat), m = xs.length - i ∧ i ≤ xs.length ∧ (∀ j, j < i → k9 (xs.getD j Nd.nil) j = true) ∧
  ys = [.d (nsl xs), .d (.int .i64 i)] ∧ h = [],
  ⟨_, _, _, ⟨.inl rfl, rfl, rfl, by first | rfl | (repeat first | exact all_nil _ | refine bn _ _ _ _ _ ?_)⟩, 0, rfl, by omega, fun j hj => absurd hj (by omega), rfl, rfl⟩, ?_⟩
 rintro m ys h ⟨i, rfl, hi, hall, rfl, rfl⟩
 by_cases hlt : i < xs.length
 ·have hx := hl (xs.getD i Nd.nil) (by simp [hlt])
  have T1 := di xs i hlt
  have hE := au3 (xs.getD i Nd.nil) i
  have no : k9 (xs.getD i Nd.nil) i = false → gu xs = false := fun ht => by
   unfold gu
   rw [Bool.and_eq_false_iff]; right
   rw [List.all_eq_false]
   exact ⟨i, List.mem_range.2 hlt, by rw [ht]; decide⟩
  have yes : k9 (xs.getD i Nd.nil) i = true → ∀ j, j < i + 1 → k9 (xs.getD j Nd.nil) j = true := fun ht j hj => by
   rcases Nat.lt_succ_iff_lt_or_eq.1 hj with g | rfl
   ·exact hall j g
   ·exact ht
  obtain ⟨T, hT⟩ : ∃ T, k9 (xs.getD i Nd.nil) i = T := ⟨_, rfl⟩
  rw [hT] at hE no yes
  generalize xs.getD i Nd.nil = x at *
  clear hT
  have c1 := asi x.r
  have c2 := asd x.r hx.1 hx.2
  obtain ⟨k, a, b, n, ⟨b1, l1, e1, c1', k1, f1⟩⟩ := x
  dsimp only at *
  generalize noC ⟨b1, l1, e1, c1', k1, f1⟩ = u at *
  generalize (fy b1 l1 e1 && fy c1' k1 f1) = w at *
  repeat' ((conv => whnf); first | with_reducible refine ah.data ?_ | ((with_reducible refine Br.jm ?hpp ?_); case hpp => first | omega | (dsimp only; omega)) | ((with_reducible refine Br.dq ?hpp ?_); case hpp => first | omega | (dsimp only; omega)) | refine aa.mk _ _ (c1) ?_ | refine aa.mk _ _ (c2) ?_ | refine Cd.mk (bj xs _ (by omega)) ?_ | ((with_reducible show TkE (List.drop _ (List.flatMap Nd.cells _)) _ _ _); refine TkE.mk _ T1 rfl ?_) | refine rgE ?_ | refine Cd.mk rfl ?_ | refine Br.t ?_ | refine Br.f ?_ | with_reducible refine Br.dec (fun _ => ?_) (fun _ => ?_) | refine Br.mk (fun _ => ?_) (fun _ => ?_) | refine ai.mk _ rfl ?_ | (refine TkE.fL ?_; (conv => whnf); fail_if_success (show ae _ _)) | refine Res.mk ?_ | refine ao.cu _ _ ?_ | ((with_reducible refine EqE.idW ?_); with_reducible refine EqE.mk _ (a5 _ (by omega)) ?_) | ((with_reducible refine EqE.idS ?_); (refine EqE.fP ?_; (conv => whnf); fail_if_success (show ae _ _))) | refine Cd.ol ?_)
  all_goals
   first
    | (rw [no (by clear no yes c1 c2 T1 hall hl hx; dsimp only at *; rw [hE]; grind)]; rfl)
    | exact ⟨_, ⟨i + 1, rfl, by omega, yes (by clear no yes c1 c2 T1 hall hl hx; dsimp only at *; rw [hE]; grind), rfl, rfl⟩, by omega⟩
 ·have e : gu xs = true := by
   unfold gu
   have : ((List.range xs.length).all fun i => k9 (xs.getD i Nd.nil) i) = true := List.all_eq_true.2 fun j hj => hall j (by have := List.mem_range.1 hj; omega)
   rw [this, Bool.and_true, decide_eq_true hl0, decide_eq_true hl40, Bool.and_true]
  rw [e]
  repeat' ((conv => whnf); first | ((with_reducible refine Br.dq ?hpp ?_); case hpp => first | omega | (dsimp only; omega)) | refine rgE ?_ | refine Cd.mk rfl ?_ | refine Res.mk ?_)
  rfl
end Go.Ev.Ar

namespace Go.Ev.Ar
open Go Go.Ev Go.Proofs
theorem aqv {a b w : Cq} (ha : Hc 40000 a) (hb : Hc 40000 b) (h : (a.1 + b.1, a.2 + b.2) = w) : Sim Tryz.prog G0 false 96 [cxD a, cxD b] (cxD w) := by
 subst h
 have s1 := ub (ha.1.mono (show 40000 ≤ 49000 by decide)) (hb.1.mono (by decide))
 have s2 := ub (ha.2.mono (show 40000 ≤ 49000 by decide)) (hb.2.mono (by decide))
 obtain ⟨_, _⟩ := a
 obtain ⟨_, _⟩ := b
 refine an af Tryz.func96 ?_
 repeat' ((conv => whnf); first | refine aa.mk _ _ (s1) ?_ | refine aa.mk _ _ (s2) ?_ | refine rgE ?_ | refine Cd.mk rfl ?_ | (refine TkE.fL ?_; (conv => whnf); fail_if_success (show ae _ _)) | refine Res.mk ?_ | ((with_reducible refine EqE.idS ?_); (refine EqE.fP ?_; (conv => whnf); fail_if_success (show ae _ _))) | refine Cd.ol ?_)
 rfl
theorem azu {a b w : Cq} (ha : Hc 40000 a) (hb : Hc 40000 b) (h : (a.1 - b.1, a.2 - b.2) = w) : Sim Tryz.prog G0 false 98 [cxD a, cxD b] (cxD w) := by
 subst h
 have s1 := asc (hb.mono (show 40000 ≤ 50000 by decide)) rfl
 have s2 := aqv (a := a) (b := (-b.1, -b.2)) (w := (a.1 - b.1, a.2 - b.2)) ha ⟨hb.1.neg, hb.2.neg⟩ (by dsimp only; congr 1 <;> grind)
 generalize a.1 - b.1 = p at *
 generalize a.2 - b.2 = q at *
 obtain ⟨_, _⟩ := a
 obtain ⟨_, _⟩ := b
 refine an af Tryz.func98 ?_
 repeat' ((conv => whnf); first | refine aa.mk _ _ (s1) ?_ | refine aa.mk _ _ (s2) ?_ | refine rgE ?_ | refine Cd.mk rfl ?_ | (refine TkE.fL ?_; (conv => whnf); fail_if_success (show ae _ _)) | refine Res.mk ?_ | ((with_reducible refine EqE.idS ?_); (refine EqE.fP ?_; (conv => whnf); fail_if_success (show ae _ _))) | refine Cd.ol ?_)
 rfl
theorem jt {a b w : Cq} (ha : Hc 20000 a) (hb : Hc 20000 b) (h : aw a b = w) : Sim Tryz.prog G0 false 97 [cxD a, cxD b] (cxD w) := by
 subst h
 have a1 : Ht 49000 (a.1 * b.1) := (ha.1.mul hb.1 (c := 40000) (by decide)).mono (by decide)
 have a2 : Ht 49000 (a.2 * b.2) := (ha.2.mul hb.2 (c := 40000) (by decide)).mono (by decide)
 have a3 : Ht 49000 (a.1 * b.2) := (ha.1.mul hb.2 (c := 40000) (by decide)).mono (by decide)
 have a4 : Ht 49000 (a.2 * b.1) := (ha.2.mul hb.1 (c := 40000) (by decide)).mono (by decide)
 have s1 := ma (ha.1.mono (show 20000 ≤ 25000 by decide)) (hb.1.mono (show 20000 ≤ 25000 by decide))
 have s2 := ma (ha.2.mono (show 20000 ≤ 25000 by decide)) (hb.2.mono (show 20000 ≤ 25000 by decide))
 have s3 := ma (ha.1.mono (show 20000 ≤ 25000 by decide)) (hb.2.mono (show 20000 ≤ 25000 by decide))
 have s4 := ma (ha.2.mono (show 20000 ≤ 25000 by decide)) (hb.1.mono (show 20000 ≤ 25000 by decide))
 have s5 := ah2 a1 a2
 have s6 := ub a3 a4
 unfold aw
 obtain ⟨p, q⟩ := a
 obtain ⟨r, s⟩ := b
 dsimp only at *
 generalize p * r - q * s = u1 at *
 generalize p * s + q * r = u2 at *
 generalize p * r = v1 at *
 generalize q * s = v2 at *
 generalize p * s = v3 at *
 generalize q * r = v4 at *
 refine an af Tryz.func97 ?_
 repeat' ((conv => whnf); first | refine aa.mk _ _ (s1) ?_ | refine aa.mk _ _ (s2) ?_ | refine aa.mk _ _ (s3) ?_ | refine aa.mk _ _ (s4) ?_ | refine aa.mk _ _ (s5) ?_ | refine aa.mk _ _ (s6) ?_ | refine rgE ?_ | refine Cd.mk rfl ?_ | (refine TkE.fL ?_; (conv => whnf); fail_if_success (show ae _ _)) | refine Res.mk ?_ | ((with_reducible refine EqE.idS ?_); (refine EqE.fP ?_; (conv => whnf); fail_if_success (show ae _ _))) | refine Cd.ol ?_)
 rfl
theorem aqw {z : Cq} (n : Nat) (hn : n ≤ 64) (hz : Hc 20000 z) (hk : ∀ i, i ≤ n → Hc 20000 (cpw z i)) : Sim Tryz.prog G0 false 99 [cxD z, .int .i64 n] (cxD (cpw z n)) := by
 have one := abk 1 0 (by decide) (by decide) (by decide) (by decide)
 have mS : ∀ i, i < n → Sim Tryz.prog G0 false 97 [cxD (cpw z i), cxD z] (cxD (cpw z (i + 1))) := fun i hi => jt (hk i (by omega)) hz rfl
 obtain ⟨a, b⟩ := z
 refine an af Tryz.func99 ?_
 repeat' ((conv => whnf); first | with_reducible refine ah.data ?_ | refine aa.mk _ _ (one) ?_ | refine rgE ?_ | refine Cd.mk rfl ?_ | ((with_reducible refine EqE.idS ?_); (refine EqE.fP ?_; (conv => whnf); fail_if_success (show ae _ _))) | refine Cd.ol ?_)
 refine ⟨[], [1, 2, 4, 5, 6], [2, 4, 5], fun m ys h => ∃ (i : Nat), m = n - i ∧ i ≤ n ∧ ys = [.d (.int .i64 n), .ptr 2 0, .ptr 4 0, .ptr 5 0, .d (.int .i64 i)] ∧
  h = [(5, false, dyC (cpw (a, b) i).1 ++ dyC (cpw (a, b) i).2), (4, false, zeA ++ zeA), (2, false, dyC a ++ dyC b)],
  ⟨_, _, _, ⟨.inl rfl, rfl, rfl, by first | rfl | (repeat first | exact all_nil _ | refine bn _ _ _ _ _ ?_)⟩, 0, rfl, by omega, rfl, rfl⟩, ?_⟩
 rintro m ys h ⟨i, rfl, hi, rfl, rfl⟩
 by_cases hlt : i < n
 ·have mi := mS i (by omega)
  repeat' ((conv => whnf); first | with_reducible refine ah.data ?_ | with_reducible refine Br.bt fun _ => ?_ | refine aa.mk _ _ (mi) ?_ | refine rgE ?_ | refine Cd.mk rfl ?_ | (refine TkE.fL ?_; (conv => whnf); fail_if_success (show ae _ _)) | refine ao.cu _ _ ?_ | ((with_reducible refine EqE.idW ?_); with_reducible refine EqE.mk _ (a5 _ (by omega)) ?_) | ((with_reducible refine EqE.idI ?_); refine EqE.mk _ (min_eq _ _) ?_) | ((with_reducible refine EqE.idS ?_); (refine EqE.fP ?_; (conv => whnf); fail_if_success (show ae _ _))) | refine Cd.ol ?_)
  exact ⟨_, ⟨i + 1, rfl, by omega, rfl, rfl⟩, by omega⟩
 ·have e : i = n := by omega
  subst e
  repeat' ((conv => whnf); first | with_reducible refine Br.bf fun _ => ?_ | refine rgE ?_ | refine Cd.mk rfl ?_ | (refine TkE.fL ?_; (conv => whnf); fail_if_success (show ae _ _)) | refine Res.mk ?_ | ((with_reducible refine EqE.idI ?_); refine EqE.mk _ (min_eq _ _) ?_) | ((with_reducible refine EqE.idS ?_); (refine EqE.fP ?_; (conv => whnf); fail_if_success (show ae _ _))) | refine Cd.ol ?_)
  rfl
def am6 (p q : Rq) : Bool := decide (aw p.1 q.2 = aw q.1 p.2)
theorem aco {p q : Rq} {t : Bool} (hp : Hr 9000 p) (hq : Hr 9000 q) (ht : am6 p q = t) : Sim Tryz.prog G0 true 51 [rqD p, rqD q] (.bool t) := by
 have s1 := jt (hp.1.mono (show 9000 ≤ 20000 by decide)) (hq.2.mono (show 9000 ≤ 20000 by decide)) rfl
 have s2 := jt (hq.1.mono (show 9000 ≤ 20000 by decide)) (hp.2.mono (show 9000 ≤ 20000 by decide)) rfl
 have h2 : Hc 18001 (aw p.1 q.2) := Hc.aw hp.1 hq.2 (by decide)
 have h3 : Hc 18001 (aw q.1 p.2) := Hc.aw hq.1 hp.2 (by decide)
 have s3 := azt (h2.mono (by decide)) (h3.mono (by decide)) ht
 clear ht h2 h3 hp hq
 generalize aw p.1 q.2 = u at *
 generalize aw q.1 p.2 = v at *
 obtain ⟨⟨_, _⟩, ⟨_, _⟩⟩ := p
 obtain ⟨⟨_, _⟩, ⟨_, _⟩⟩ := q
 obtain ⟨_, _⟩ := u
 obtain ⟨_, _⟩ := v
 refine an af Tryz.func51 ?_
 repeat' ((conv => whnf); first | refine aa.mk _ _ (s1) ?_ | refine aa.mk _ _ (s2) ?_ | refine aa.mk _ _ (s3) ?_ | refine rgE ?_ | refine Cd.mk rfl ?_ | (refine TkE.fL ?_; (conv => whnf); fail_if_success (show ae _ _)) | refine Res.mk ?_)
 all_goals rfl
end Go.Ev.Ar

namespace Go.Ev.Ar
open Go Go.Ev Go.Proofs
def acr (p q : Rq) : Rq := (((aw p.1 q.2).1 + (aw q.1 p.2).1, (aw p.1 q.2).2 + (aw q.1 p.2).2), aw p.2 q.2)
def ah5 (p q : Rq) : Rq := (((aw p.1 q.2).1 - (aw q.1 p.2).1, (aw p.1 q.2).2 - (aw q.1 p.2).2), aw p.2 q.2)
theorem abl (p : Rq) : ∀ j, qw p j = (cpw p.1 j, cpw p.2 j)
 | 0 => rfl
 | j + 1 => by unfold qw; rw [abl p j]; rfl
def bx (vs : List Rq) (x : Nd) (z : Cq) : Option Rq :=
 if x.k = 3 then some (acr (vs.getD x.a.toNat (ag, ag)) (vs.getD x.b.toNat (ag, ag)))
 else if x.k = 4 then some (ah5 (vs.getD x.a.toNat (ag, ag)) (vs.getD x.b.toNat (ag, ag)))
 else b9 vs x z
def eb (vs : List Rq) (x : Nd) (z : Cq) : Option Rq := (bx vs x z).bind fun r => if r.2 = (0, 0) then none else some r
def qk (xs : List Nd) (z : Cq) : Nat → Option (List Rq)
 | 0 => some []
 | i + 1 => (qk xs z i).bind fun vs => (eb vs (xs.getD i Nd.nil) z).map fun r => vs ++ [r]
theorem akq {xs : List Nd} {z : Cq} : ∀ {i : Nat} {vs : List Rq}, qk xs z i = some vs → vs.length = i
 | 0, vs, h => by cases h; rfl
 | i + 1, vs, h => by
  unfold qk at h
  rw [Option.bind_eq_some_iff] at h
  obtain ⟨us, hu, h⟩ := h
  rw [Option.map_eq_some_iff] at h
  obtain ⟨r, _, rfl⟩ := h
  rw [List.length_append, akq hu]; rfl
theorem ab1 {xs : List Nd} {z : Cq} : ∀ {i j : Nat}, qk xs z i = none → i ≤ j → qk xs z j = none
 | i, 0, h, hj => by rw [show i = 0 by omega] at h; cases h
 | i, j + 1, h, hj => by
  by_cases e : i = j + 1
  ·rw [← e]; exact h
  ·unfold qk; rw [ab1 h (by omega)]; rfl
theorem arp {xs : List Nd} {z : Cq} {i : Nat} {vs : List Rq} {x : Nd} {r : Rq} (h : qk xs z i = some vs) (hx : xs.getD i Nd.nil = x) (hv : bx vs x z = some r) (hr : r.2 ≠ (0, 0)) : qk xs z (i + 1) = some (vs ++ [r]) := by
 unfold qk; rw [h, hx]; show (eb vs x z).map _ = _
 unfold eb; rw [hv]; show Option.map _ (if r.2 = (0, 0) then none else some r) = _
 rw [if_neg hr]; rfl
theorem ayg {xs : List Nd} {z : Cq} {i n : Nat} {vs : List Rq} {x : Nd} (h : qk xs z i = some vs) (hx : xs.getD i Nd.nil = x) (hv : eb vs x z = none) (hi : i < n) : qk xs z n = none := by
 refine ab1 (i := i + 1) ?_ hi
 unfold qk; rw [h, hx]; show (eb vs x z).map _ = _
 rw [hv]; rfl
theorem asm {a b c : Nat} {p q : Rq} (hp : Hr a p) (hq : Hr b q) (hc : a + b + 2 ≤ c) : Hr c (acr p q) := by
 have u : Hc (a + b + 1) (aw p.1 q.2) := Hc.aw hp.1 hq.2 (by omega)
 have v : Hc (a + b + 1) (aw q.1 p.2) := Hc.aw hq.1 hp.2 (by omega)
 exact ⟨⟨u.1.add v.1 (by omega), u.2.add v.2 (by omega)⟩, Hc.aw hp.2 hq.2 (by omega)⟩
theorem awo {a b c : Nat} {p q : Rq} (hp : Hr a p) (hq : Hr b q) (hc : a + b + 2 ≤ c) : Hr c (ah5 p q) := by
 have u : Hc (a + b + 1) (aw p.1 q.2) := Hc.aw hp.1 hq.2 (by omega)
 have v : Hc (a + b + 1) (aw q.1 p.2) := Hc.aw hq.1 hp.2 (by omega)
 exact ⟨⟨u.1.sub v.1 (by omega), u.2.sub v.2 (by omega)⟩, Hc.aw hp.2 hq.2 (by omega)⟩
theorem ahr {ss : List Int} {vs : List Rq} {x : Nd} {z : Cq} {r : Rq} (hf : Fit ss vs) (hx : k9 x vs.length = true) (hz : Hc 104 z) (hc : Hc 104 x.r.val) (hs : ik ss x vs.length ≤ 60) (h : bx vs x z = some r) : 1 ≤ ik ss x vs.length ∧ Hr (110 * (ik ss x vs.length).toNat) r := by
 by_cases k34 : x.k = 3 ∨ x.k = 4
 rotate_left
 ·unfold bx at h
  rw [if_neg (by omega), if_neg (by omega)] at h
  exact afy hf hx hz hc hs h
 obtain ⟨k1, k10, fa, fb, _, _, f7, _⟩ := j7 hx
 obtain ⟨a0, a1⟩ := fa (by omega)
 obtain ⟨b0, b1⟩ := fb (by omega)
 have e : ik ss x vs.length = ss.getD x.a.toNat 0 + ss.getD x.b.toNat 0 + 1 := by
  unfold ik; rw [if_neg (by omega), if_pos ⟨by omega, gg.2 ⟨a0, a1⟩, gg.2 ⟨b0, b1⟩⟩]
 rw [e] at hs ⊢
 have sa := hf.s1 x.a.toNat (by omega)
 have sb := hf.s1 x.b.toNat (by omega)
 have va := hf.v x.a.toNat (by omega)
 have vb := hf.v x.b.toNat (by omega)
 refine ⟨by omega, ?_⟩
 unfold bx at h
 generalize vs.getD x.a.toNat (ag, ag) = p at *
 generalize vs.getD x.b.toNat (ag, ag) = q at *
 generalize ss.getD x.a.toNat 0 = u at *
 generalize ss.getD x.b.toNat 0 = w at *
 obtain ⟨u, rfl⟩ := Int.eq_ofNat_of_zero_le (show 0 ≤ u by omega)
 obtain ⟨w, rfl⟩ := Int.eq_ofNat_of_zero_le (show 0 ≤ w by omega)
 rw [Int.toNat_natCast] at va vb
 rw [show ((u : Int) + (w : Int) + 1).toNat = u + w + 1 by omega]
 rcases k34 with k' | k'
 ·rw [if_pos k'] at h; cases h
  exact asm (a := 110 * u) (b := 110 * w) va vb (by omega)
 ·rw [if_neg (by omega), if_pos k'] at h; cases h
  exact awo (a := 110 * u) (b := 110 * w) va vb (by omega)
def qc (p : Rq) : List D := oc (some p)
theorem xo (p : Rq) : (qc p).length = 12 := rfl
theorem tr {vs : List Rq} {a : Int} (h0 : 0 ≤ a) (h1 : a.toNat < vs.length) : ((fa qc vs).drop (0 + a.toNat * 12)).take 12 = (qc (vs.getD a.toNat (ag, ag))).map A.d := by
 have := w9 (f := qc) (k := 12) xo (ag, ag) vs a.toNat h1
 rw [Int.toNat_natCast] at this
 exact this
theorem zu (vs : List Rq) (r : Rq) : fa qc vs ++ (qc r).map A.d = fa qc (vs ++ [r]) := by
 unfold fa; rw [List.flatMap_append, List.map_append]; simp
def arq (o : Option (List Rq)) : D := match o with
 | some vs => .tup [rqD (vs.getD (vs.length - 1) (ag, ag)), .bool true]
 | none => .tup [.agg [.bool false, sl [], .int .i64 0, .bool false, sl [], .int .i64 0, .bool false, sl [], .int .i64 0, .bool false, sl [], .int .i64 0], .bool false]
theorem aps (o : Option (List Rq)) : (arq o).sc = false := by cases o <;> rfl
end Go.Ev.Ar
