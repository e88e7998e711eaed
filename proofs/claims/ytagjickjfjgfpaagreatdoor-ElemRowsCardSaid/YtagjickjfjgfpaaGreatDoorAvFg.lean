/- Contracts of the given functions, on data. Conditions stand in each theorem. -/
import Derived.Test.YtagjickjfjgfpaaGreatDoorAvFf
set_option linter.unusedSimpArgs false
set_option linter.unusedVariables false
namespace Go.Ev.Ar
open Go Go.Ev Go.Proofs

/-- A number's cells, at the beginning those of none. -/
def zc : Nat → Dyadic → List A
  | 0, _ => zeA
  | _ + 1, q => dyC q
set_option maxRecDepth 10000 in
set_option maxHeartbeats 1000000 in
theorem terms_sim {X : Dyadic} (hX : Ht 100 X) : Sim Tryz.prog G0 false 14 [dyD X] (.agg (dyL (tmS X 13).1 ++ dyL (tmS X 13).2.1 ++ dyL (tmS X 13).2.2.1)) := by
  have k1 : Sim Tryz.prog G0 false 20 [.int .i64 1] (dyD 1) := rofd_sim 1 (by decide) (by decide)
  have hh := tmS_ht hX
  refine sim_mk tab_ok Tryz.func14 rfl (by kernel_rfl) rfl ⟨Nat.le_of_ble_eq_true rfl, Nat.le_of_ble_eq_true rfl⟩ ?_
  repeat' ((conv => whnf); first
    | with_reducible refine CallX.data ?_
    | refine CallE.mk _ _ (k1) ?_
    | refine RegE.early (Cd.mk (show regOk _ _ _ _ = true by kernel_rfl) ?_)
    | refine Cd.mk rfl ?_
    | ((with_reducible refine EqE.idS ?_); (refine EqE.fP ?_; (conv => whnf); fail_if_success (show forceL _ _)))
    | refine Cd.mk (Nat.le_of_ble_eq_true rfl) ?_)
  refine ⟨[], [1, 2, 3, 4, 5, 6], [1, 2, 3, 5], fun m xs h => ∃ (i : Nat), m = 13 - i ∧ i ≤ 13 ∧
      xs = [.ptr 1 0, .ptr 2 0, .ptr 3 0, .d (.int .i64 (fac' i)), .ptr 5 0, .d (.int .i64 (i : Nat))] ∧
      h = [(5, false, dyC (tmS X i).2.2.2), (3, false, zc i (tmS X i).1 ++ (zc i (tmS X i).2.1 ++ zc (i - 1) (tmS X i).2.2.1)), (2, false, zeA ++ (zeA ++ zeA)), (1, false, dyC X)],
    ⟨_, _, _, ⟨.inl rfl, rfl, rfl, by first | rfl | (repeat first | exact all_nil _ | refine all_la _ _ _ _ _ ?_)⟩, 0, rfl, by decide, rfl, by rw [(tmS0 X).2.2.2]; exact rfl⟩, ?_⟩
  rintro m xs h ⟨i, rfl, hi, rfl, rfl⟩
  match i, hi with
  | 0, _ =>
    obtain ⟨a1, a2, a3, a4⟩ := hh 0
    have hfac : fac 0 = 479001600 := by decide
    have nx := tmE0 (X := X) hfac (by decide) (by decide)
    have f1 := rofd_sim 479001600 (by decide) (by decide)
    have hf : Ht 64 (dof 479001600 0) := Ht.i64 (by decide) (by decide)
    obtain ⟨b1, b2, b3, b4⟩ := hh 1
    have e1 : (tmS X 1).1 = (tmS X 0).1 + (tmS X 0).2.2.2 * dof 479001600 0 := (tmA (X := X) (j := 0) hfac).1
    have e2 : (tmS X 1).2.1 = (tmS X 0).2.1 + ((tmS X 0).2.2.2 * dof 479001600 0) := nx.1
    have e3 : (tmS X 1).2.2.1 = (tmS X 0).2.2.1 := nx.2
    have e4 : (tmS X 1).2.2.2 = (tmS X 0).2.2.2 * X := (tmA (X := X) (j := 0) hfac).2
    clear nx hh
    have z1 := (tmS0 X).1
    have z2 := (tmS0 X).2.1
    have z4 := (tmS0 X).2.2.2
    generalize (tmS X 0).1 = a at *
    generalize (tmS X 0).2.1 = b at *
    generalize (tmS X 0).2.2.1 = c at *
    generalize (tmS X 0).2.2.2 = p at *
    obtain ⟨a', ha⟩ : ∃ a', (tmS X 1).1 = a' := ⟨_, rfl⟩
    obtain ⟨b', hb⟩ : ∃ b', (tmS X 1).2.1 = b' := ⟨_, rfl⟩
    obtain ⟨c', hc⟩ : ∃ c', (tmS X 1).2.2.1 = c' := ⟨_, rfl⟩
    obtain ⟨p', hp⟩ : ∃ p', (tmS X 1).2.2.2 = p' := ⟨_, rfl⟩
    rw [ha] at e1
    rw [hb] at e2
    rw [hc] at e3
    rw [hp] at e4
    clear b1 b2 b3 b4
    have hT : Ht 2000 (p * dof 479001600 0) := (a1.mul hf (c := 1500) (by decide)).mono (by decide)
    have s1 := rdmul_sim (a1.mono (by decide)) (hf.mono (by decide))
    have s2 := rdmul_sim (a1.mono (by decide)) (hX.mono (by decide))
    rw [← e4] at s2
    generalize p * dof 479001600 0 = T at *
    have hU := hT
    have s4 := add_zero_l (hT.mono (by decide))
    rw [← z1, ← e1] at s4
    have s5 := add_zero_l (hU.mono (by decide))
    rw [← z2, ← e2] at s5
    subst e3
    have eab : b' = a' := by rw [e1, e2, z1, z2]
    subst eab
    repeat' ((conv => whnf); first
      | with_reducible refine CallX.data ?_
      | with_reducible refine Br.dec (fun _ => ?_) (fun h => absurd (by omega) h)
      | with_reducible refine Br.dec (fun h => absurd h (by omega)) (fun _ => ?_)
      | refine CallE.mk _ _ (f1) ?_
      | refine CallE.mk _ _ (s1) ?_
      | refine CallE.mk _ _ (s4) ?_
      | refine CallE.mk _ _ (s2) ?_
      | refine RegE.early (Cd.mk (show regOk _ _ _ _ = true by kernel_rfl) ?_)
      | refine Cd.mk rfl ?_
      | (refine TkE.fL ?_; (conv => whnf); fail_if_success (show forceL _ _))
      | refine LoopEnd.go _ _ ⟨.inl rfl, rfl, rfl, by first | rfl | (repeat first | exact all_nil _ | refine all_la _ _ _ _ _ ?_)⟩ ?_
      | ((with_reducible refine EqE.idW ?_); first | refine EqE.mk 479001600 (by decide) ?_ | refine EqE.mk ((1 : Nat) : Int) (by decide) ?_ | refine EqE.mk 0 (by decide) ?_)
      | ((with_reducible refine EqE.idM ?_); refine EqE.mk 0 (by decide) ?_)
      | ((with_reducible refine EqE.idS ?_); (refine EqE.fP ?_; (conv => whnf); fail_if_success (show forceL _ _)))
      | refine Cd.mk (Nat.le_of_ble_eq_true rfl) ?_
      | refine Cd.mk (by first | omega | (simp only [length_limbs, length_la]; omega)) ?_)
    exact ⟨_, ⟨1, rfl, by decide, rfl, by rw [ha, hb, hc, hp]; exact rfl⟩, by decide⟩
  | 1, _ =>
    obtain ⟨a1, a2, a3, a4⟩ := hh 1
    have hfac : fac 1 = 479001600 := by decide
    have nx := tmO0 (X := X) hfac (by decide) (by decide)
    have f1 := rofd_sim 479001600 (by decide) (by decide)
    have hf : Ht 64 (dof 479001600 0) := Ht.i64 (by decide) (by decide)
    obtain ⟨b1, b2, b3, b4⟩ := hh 2
    have e1 : (tmS X 2).1 = (tmS X 1).1 + (tmS X 1).2.2.2 * dof 479001600 0 := (tmA (X := X) (j := 1) hfac).1
    have e2 : (tmS X 2).2.1 = (tmS X 1).2.1 := nx.1
    have e3 : (tmS X 2).2.2.1 = (tmS X 1).2.2.1 + ((tmS X 1).2.2.2 * dof 479001600 0) := nx.2
    have e4 : (tmS X 2).2.2.2 = (tmS X 1).2.2.2 * X := (tmA (X := X) (j := 1) hfac).2
    clear nx hh
    have z3 : (tmS X 1).2.2.1 = 0 := (tmSb X 0).2.trans (tmS0 X).2.2.1
    generalize (tmS X 1).1 = a at *
    generalize (tmS X 1).2.1 = b at *
    generalize (tmS X 1).2.2.1 = c at *
    generalize (tmS X 1).2.2.2 = p at *
    obtain ⟨a', ha⟩ : ∃ a', (tmS X 2).1 = a' := ⟨_, rfl⟩
    obtain ⟨b', hb⟩ : ∃ b', (tmS X 2).2.1 = b' := ⟨_, rfl⟩
    obtain ⟨c', hc⟩ : ∃ c', (tmS X 2).2.2.1 = c' := ⟨_, rfl⟩
    obtain ⟨p', hp⟩ : ∃ p', (tmS X 2).2.2.2 = p' := ⟨_, rfl⟩
    rw [ha] at e1
    rw [hb] at e2
    rw [hc] at e3
    rw [hp] at e4
    clear b1 b2 b3 b4
    have hT : Ht 2000 (p * dof 479001600 0) := (a1.mul hf (c := 1500) (by decide)).mono (by decide)
    have s1 := rdmul_sim (a1.mono (by decide)) (hf.mono (by decide))
    have s2 := rdmul_sim (a1.mono (by decide)) (hX.mono (by decide))
    rw [← e4] at s2
    generalize p * dof 479001600 0 = T at *
    have hU := hT
    have s4 := rdadd_sim (a2.mono (by decide)) (hT.mono (by decide))
    rw [← e1] at s4
    have s5 := add_zero_l (hU.mono (by decide))
    rw [← z3, ← e3] at s5
    subst e2
    repeat' ((conv => whnf); first
      | with_reducible refine CallX.data ?_
      | with_reducible refine Br.dec (fun _ => ?_) (fun h => absurd (by omega) h)
      | with_reducible refine Br.dec (fun h => absurd h (by omega)) (fun _ => ?_)
      | refine CallE.mk _ _ (f1) ?_
      | refine CallE.mk _ _ (s1) ?_
      | refine CallE.mk _ _ (s4) ?_
      | refine CallE.mk _ _ (s5) ?_
      | refine CallE.mk _ _ (s2) ?_
      | refine RegE.early (Cd.mk (show regOk _ _ _ _ = true by kernel_rfl) ?_)
      | refine Cd.mk rfl ?_
      | (refine TkE.fL ?_; (conv => whnf); fail_if_success (show forceL _ _))
      | refine LoopEnd.go _ _ ⟨.inl rfl, rfl, rfl, by first | rfl | (repeat first | exact all_nil _ | refine all_la _ _ _ _ _ ?_)⟩ ?_
      | ((with_reducible refine EqE.idW ?_); first | refine EqE.mk 239500800 (by decide) ?_ | refine EqE.mk ((2 : Nat) : Int) (by decide) ?_ | refine EqE.mk 0 (by decide) ?_)
      | ((with_reducible refine EqE.idM ?_); first | refine EqE.mk 0 (by decide) ?_ | refine EqE.mk 1 (by decide) ?_)
      | ((with_reducible refine EqE.idS ?_); (refine EqE.fP ?_; (conv => whnf); fail_if_success (show forceL _ _)))
      | refine Cd.mk (Nat.le_of_ble_eq_true rfl) ?_
      | refine Cd.mk (by first | omega | (simp only [length_limbs, length_la]; omega)) ?_)
    exact ⟨_, ⟨2, rfl, by decide, rfl, by rw [ha, hb, hc, hp]; exact rfl⟩, by decide⟩
  | 2, _ =>
    obtain ⟨a1, a2, a3, a4⟩ := hh 2
    have hfac : fac 2 = 239500800 := by decide
    have nx := tmE1 (X := X) hfac (by decide) (by decide)
    have f1 := rofd_sim 239500800 (by decide) (by decide)
    have hf : Ht 64 (dof 239500800 0) := Ht.i64 (by decide) (by decide)
    obtain ⟨b1, b2, b3, b4⟩ := hh 3
    have e1 : (tmS X 3).1 = (tmS X 2).1 + (tmS X 2).2.2.2 * dof 239500800 0 := (tmA (X := X) (j := 2) hfac).1
    have e2 : (tmS X 3).2.1 = (tmS X 2).2.1 + -((tmS X 2).2.2.2 * dof 239500800 0) := nx.1
    have e3 : (tmS X 3).2.2.1 = (tmS X 2).2.2.1 := nx.2
    have e4 : (tmS X 3).2.2.2 = (tmS X 2).2.2.2 * X := (tmA (X := X) (j := 2) hfac).2
    clear nx hh
    generalize (tmS X 2).1 = a at *
    generalize (tmS X 2).2.1 = b at *
    generalize (tmS X 2).2.2.1 = c at *
    generalize (tmS X 2).2.2.2 = p at *
    obtain ⟨a', ha⟩ : ∃ a', (tmS X 3).1 = a' := ⟨_, rfl⟩
    obtain ⟨b', hb⟩ : ∃ b', (tmS X 3).2.1 = b' := ⟨_, rfl⟩
    obtain ⟨c', hc⟩ : ∃ c', (tmS X 3).2.2.1 = c' := ⟨_, rfl⟩
    obtain ⟨p', hp⟩ : ∃ p', (tmS X 3).2.2.2 = p' := ⟨_, rfl⟩
    rw [ha] at e1
    rw [hb] at e2
    rw [hc] at e3
    rw [hp] at e4
    clear b1 b2 b3 b4
    have hT : Ht 2000 (p * dof 239500800 0) := (a1.mul hf (c := 1500) (by decide)).mono (by decide)
    have s1 := rdmul_sim (a1.mono (by decide)) (hf.mono (by decide))
    have s2 := rdmul_sim (a1.mono (by decide)) (hX.mono (by decide))
    rw [← e4] at s2
    generalize p * dof 239500800 0 = T at *
    have s3 := rdneg_sim (hT.mono (by decide))
    have hU := hT.neg
    have s4 := rdadd_sim (a2.mono (by decide)) (hT.mono (by decide))
    rw [← e1] at s4
    have s5 := rdadd_sim (a3.mono (by decide)) (hU.mono (by decide))
    rw [← e2] at s5
    generalize -T = U at *
    subst e3
    repeat' ((conv => whnf); first
      | with_reducible refine CallX.data ?_
      | with_reducible refine Br.dec (fun _ => ?_) (fun h => absurd (by omega) h)
      | refine CallE.mk _ _ (f1) ?_
      | refine CallE.mk _ _ (s1) ?_
      | refine CallE.mk _ _ (s3) ?_
      | refine CallE.mk _ _ (s4) ?_
      | refine CallE.mk _ _ (s5) ?_
      | refine CallE.mk _ _ (s2) ?_
      | refine RegE.early (Cd.mk (show regOk _ _ _ _ = true by kernel_rfl) ?_)
      | refine Cd.mk rfl ?_
      | (refine TkE.fL ?_; (conv => whnf); fail_if_success (show forceL _ _))
      | refine LoopEnd.go _ _ ⟨.inl rfl, rfl, rfl, by first | rfl | (repeat first | exact all_nil _ | refine all_la _ _ _ _ _ ?_)⟩ ?_
      | ((with_reducible refine EqE.idW ?_); first | refine EqE.mk 79833600 (by decide) ?_ | refine EqE.mk ((3 : Nat) : Int) (by decide) ?_ | refine EqE.mk 1 (by decide) ?_)
      | ((with_reducible refine EqE.idM ?_); first | refine EqE.mk 0 (by decide) ?_ | refine EqE.mk 1 (by decide) ?_)
      | ((with_reducible refine EqE.idS ?_); (refine EqE.fP ?_; (conv => whnf); fail_if_success (show forceL _ _)))
      | refine Cd.mk (Nat.le_of_ble_eq_true rfl) ?_
      | refine Cd.mk (by first | omega | (simp only [length_limbs, length_la]; omega)) ?_)
    exact ⟨_, ⟨3, rfl, by decide, rfl, by rw [ha, hb, hc, hp]; exact rfl⟩, by decide⟩
  | 3, _ =>
    obtain ⟨a1, a2, a3, a4⟩ := hh 3
    have hfac : fac 3 = 79833600 := by decide
    have nx := tmO1 (X := X) hfac (by decide) (by decide)
    have f1 := rofd_sim 79833600 (by decide) (by decide)
    have hf : Ht 64 (dof 79833600 0) := Ht.i64 (by decide) (by decide)
    obtain ⟨b1, b2, b3, b4⟩ := hh 4
    have e1 : (tmS X 4).1 = (tmS X 3).1 + (tmS X 3).2.2.2 * dof 79833600 0 := (tmA (X := X) (j := 3) hfac).1
    have e2 : (tmS X 4).2.1 = (tmS X 3).2.1 := nx.1
    have e3 : (tmS X 4).2.2.1 = (tmS X 3).2.2.1 + -((tmS X 3).2.2.2 * dof 79833600 0) := nx.2
    have e4 : (tmS X 4).2.2.2 = (tmS X 3).2.2.2 * X := (tmA (X := X) (j := 3) hfac).2
    clear nx hh
    generalize (tmS X 3).1 = a at *
    generalize (tmS X 3).2.1 = b at *
    generalize (tmS X 3).2.2.1 = c at *
    generalize (tmS X 3).2.2.2 = p at *
    obtain ⟨a', ha⟩ : ∃ a', (tmS X 4).1 = a' := ⟨_, rfl⟩
    obtain ⟨b', hb⟩ : ∃ b', (tmS X 4).2.1 = b' := ⟨_, rfl⟩
    obtain ⟨c', hc⟩ : ∃ c', (tmS X 4).2.2.1 = c' := ⟨_, rfl⟩
    obtain ⟨p', hp⟩ : ∃ p', (tmS X 4).2.2.2 = p' := ⟨_, rfl⟩
    rw [ha] at e1
    rw [hb] at e2
    rw [hc] at e3
    rw [hp] at e4
    clear b1 b2 b3 b4
    have hT : Ht 2000 (p * dof 79833600 0) := (a1.mul hf (c := 1500) (by decide)).mono (by decide)
    have s1 := rdmul_sim (a1.mono (by decide)) (hf.mono (by decide))
    have s2 := rdmul_sim (a1.mono (by decide)) (hX.mono (by decide))
    rw [← e4] at s2
    generalize p * dof 79833600 0 = T at *
    have s3 := rdneg_sim (hT.mono (by decide))
    have hU := hT.neg
    have s4 := rdadd_sim (a2.mono (by decide)) (hT.mono (by decide))
    rw [← e1] at s4
    have s5 := rdadd_sim (a4.mono (by decide)) (hU.mono (by decide))
    rw [← e3] at s5
    generalize -T = U at *
    subst e2
    repeat' ((conv => whnf); first
      | with_reducible refine CallX.data ?_
      | with_reducible refine Br.dec (fun _ => ?_) (fun h => absurd (by omega) h)
      | refine CallE.mk _ _ (f1) ?_
      | refine CallE.mk _ _ (s1) ?_
      | refine CallE.mk _ _ (s3) ?_
      | refine CallE.mk _ _ (s4) ?_
      | refine CallE.mk _ _ (s5) ?_
      | refine CallE.mk _ _ (s2) ?_
      | refine RegE.early (Cd.mk (show regOk _ _ _ _ = true by kernel_rfl) ?_)
      | refine Cd.mk rfl ?_
      | (refine TkE.fL ?_; (conv => whnf); fail_if_success (show forceL _ _))
      | refine LoopEnd.go _ _ ⟨.inl rfl, rfl, rfl, by first | rfl | (repeat first | exact all_nil _ | refine all_la _ _ _ _ _ ?_)⟩ ?_
      | ((with_reducible refine EqE.idW ?_); first | refine EqE.mk 19958400 (by decide) ?_ | refine EqE.mk ((4 : Nat) : Int) (by decide) ?_ | refine EqE.mk 1 (by decide) ?_ | refine EqE.mk 2 (by decide) ?_)
      | ((with_reducible refine EqE.idM ?_); refine EqE.mk 1 (by decide) ?_)
      | ((with_reducible refine EqE.idS ?_); (refine EqE.fP ?_; (conv => whnf); fail_if_success (show forceL _ _)))
      | refine Cd.mk (Nat.le_of_ble_eq_true rfl) ?_
      | refine Cd.mk (by first | omega | (simp only [length_limbs, length_la]; omega)) ?_)
    exact ⟨_, ⟨4, rfl, by decide, rfl, by rw [ha, hb, hc, hp]; exact rfl⟩, by decide⟩
  | 4, _ =>
    obtain ⟨a1, a2, a3, a4⟩ := hh 4
    have hfac : fac 4 = 19958400 := by decide
    have nx := tmE0 (X := X) hfac (by decide) (by decide)
    have f1 := rofd_sim 19958400 (by decide) (by decide)
    have hf : Ht 64 (dof 19958400 0) := Ht.i64 (by decide) (by decide)
    obtain ⟨b1, b2, b3, b4⟩ := hh 5
    have e1 : (tmS X 5).1 = (tmS X 4).1 + (tmS X 4).2.2.2 * dof 19958400 0 := (tmA (X := X) (j := 4) hfac).1
    have e2 : (tmS X 5).2.1 = (tmS X 4).2.1 + ((tmS X 4).2.2.2 * dof 19958400 0) := nx.1
    have e3 : (tmS X 5).2.2.1 = (tmS X 4).2.2.1 := nx.2
    have e4 : (tmS X 5).2.2.2 = (tmS X 4).2.2.2 * X := (tmA (X := X) (j := 4) hfac).2
    clear nx hh
    generalize (tmS X 4).1 = a at *
    generalize (tmS X 4).2.1 = b at *
    generalize (tmS X 4).2.2.1 = c at *
    generalize (tmS X 4).2.2.2 = p at *
    obtain ⟨a', ha⟩ : ∃ a', (tmS X 5).1 = a' := ⟨_, rfl⟩
    obtain ⟨b', hb⟩ : ∃ b', (tmS X 5).2.1 = b' := ⟨_, rfl⟩
    obtain ⟨c', hc⟩ : ∃ c', (tmS X 5).2.2.1 = c' := ⟨_, rfl⟩
    obtain ⟨p', hp⟩ : ∃ p', (tmS X 5).2.2.2 = p' := ⟨_, rfl⟩
    rw [ha] at e1
    rw [hb] at e2
    rw [hc] at e3
    rw [hp] at e4
    clear b1 b2 b3 b4
    have hT : Ht 2000 (p * dof 19958400 0) := (a1.mul hf (c := 1500) (by decide)).mono (by decide)
    have s1 := rdmul_sim (a1.mono (by decide)) (hf.mono (by decide))
    have s2 := rdmul_sim (a1.mono (by decide)) (hX.mono (by decide))
    rw [← e4] at s2
    generalize p * dof 19958400 0 = T at *
    have hU := hT
    have s4 := rdadd_sim (a2.mono (by decide)) (hT.mono (by decide))
    rw [← e1] at s4
    have s5 := rdadd_sim (a3.mono (by decide)) (hU.mono (by decide))
    rw [← e2] at s5
    subst e3
    repeat' ((conv => whnf); first
      | with_reducible refine CallX.data ?_
      | with_reducible refine Br.dec (fun _ => ?_) (fun h => absurd (by omega) h)
      | with_reducible refine Br.dec (fun h => absurd h (by omega)) (fun _ => ?_)
      | refine CallE.mk _ _ (f1) ?_
      | refine CallE.mk _ _ (s1) ?_
      | refine CallE.mk _ _ (s4) ?_
      | refine CallE.mk _ _ (s5) ?_
      | refine CallE.mk _ _ (s2) ?_
      | refine RegE.early (Cd.mk (show regOk _ _ _ _ = true by kernel_rfl) ?_)
      | refine Cd.mk rfl ?_
      | (refine TkE.fL ?_; (conv => whnf); fail_if_success (show forceL _ _))
      | refine LoopEnd.go _ _ ⟨.inl rfl, rfl, rfl, by first | rfl | (repeat first | exact all_nil _ | refine all_la _ _ _ _ _ ?_)⟩ ?_
      | ((with_reducible refine EqE.idW ?_); first | refine EqE.mk 3991680 (by decide) ?_ | refine EqE.mk ((5 : Nat) : Int) (by decide) ?_ | refine EqE.mk 2 (by decide) ?_ | refine EqE.mk 1 (by decide) ?_)
      | ((with_reducible refine EqE.idM ?_); refine EqE.mk 0 (by decide) ?_)
      | ((with_reducible refine EqE.idS ?_); (refine EqE.fP ?_; (conv => whnf); fail_if_success (show forceL _ _)))
      | refine Cd.mk (Nat.le_of_ble_eq_true rfl) ?_
      | refine Cd.mk (by first | omega | (simp only [length_limbs, length_la]; omega)) ?_)
    exact ⟨_, ⟨5, rfl, by decide, rfl, by rw [ha, hb, hc, hp]; exact rfl⟩, by decide⟩
  | 5, _ =>
    obtain ⟨a1, a2, a3, a4⟩ := hh 5
    have hfac : fac 5 = 3991680 := by decide
    have nx := tmO0 (X := X) hfac (by decide) (by decide)
    have f1 := rofd_sim 3991680 (by decide) (by decide)
    have hf : Ht 64 (dof 3991680 0) := Ht.i64 (by decide) (by decide)
    obtain ⟨b1, b2, b3, b4⟩ := hh 6
    have e1 : (tmS X 6).1 = (tmS X 5).1 + (tmS X 5).2.2.2 * dof 3991680 0 := (tmA (X := X) (j := 5) hfac).1
    have e2 : (tmS X 6).2.1 = (tmS X 5).2.1 := nx.1
    have e3 : (tmS X 6).2.2.1 = (tmS X 5).2.2.1 + ((tmS X 5).2.2.2 * dof 3991680 0) := nx.2
    have e4 : (tmS X 6).2.2.2 = (tmS X 5).2.2.2 * X := (tmA (X := X) (j := 5) hfac).2
    clear nx hh
    generalize (tmS X 5).1 = a at *
    generalize (tmS X 5).2.1 = b at *
    generalize (tmS X 5).2.2.1 = c at *
    generalize (tmS X 5).2.2.2 = p at *
    obtain ⟨a', ha⟩ : ∃ a', (tmS X 6).1 = a' := ⟨_, rfl⟩
    obtain ⟨b', hb⟩ : ∃ b', (tmS X 6).2.1 = b' := ⟨_, rfl⟩
    obtain ⟨c', hc⟩ : ∃ c', (tmS X 6).2.2.1 = c' := ⟨_, rfl⟩
    obtain ⟨p', hp⟩ : ∃ p', (tmS X 6).2.2.2 = p' := ⟨_, rfl⟩
    rw [ha] at e1
    rw [hb] at e2
    rw [hc] at e3
    rw [hp] at e4
    clear b1 b2 b3 b4
    have hT : Ht 2000 (p * dof 3991680 0) := (a1.mul hf (c := 1500) (by decide)).mono (by decide)
    have s1 := rdmul_sim (a1.mono (by decide)) (hf.mono (by decide))
    have s2 := rdmul_sim (a1.mono (by decide)) (hX.mono (by decide))
    rw [← e4] at s2
    generalize p * dof 3991680 0 = T at *
    have hU := hT
    have s4 := rdadd_sim (a2.mono (by decide)) (hT.mono (by decide))
    rw [← e1] at s4
    have s5 := rdadd_sim (a4.mono (by decide)) (hU.mono (by decide))
    rw [← e3] at s5
    subst e2
    repeat' ((conv => whnf); first
      | with_reducible refine CallX.data ?_
      | with_reducible refine Br.dec (fun _ => ?_) (fun h => absurd (by omega) h)
      | with_reducible refine Br.dec (fun h => absurd h (by omega)) (fun _ => ?_)
      | refine CallE.mk _ _ (f1) ?_
      | refine CallE.mk _ _ (s1) ?_
      | refine CallE.mk _ _ (s4) ?_
      | refine CallE.mk _ _ (s5) ?_
      | refine CallE.mk _ _ (s2) ?_
      | refine RegE.early (Cd.mk (show regOk _ _ _ _ = true by kernel_rfl) ?_)
      | refine Cd.mk rfl ?_
      | (refine TkE.fL ?_; (conv => whnf); fail_if_success (show forceL _ _))
      | refine LoopEnd.go _ _ ⟨.inl rfl, rfl, rfl, by first | rfl | (repeat first | exact all_nil _ | refine all_la _ _ _ _ _ ?_)⟩ ?_
      | ((with_reducible refine EqE.idW ?_); first | refine EqE.mk 665280 (by decide) ?_ | refine EqE.mk ((6 : Nat) : Int) (by decide) ?_ | refine EqE.mk 2 (by decide) ?_)
      | ((with_reducible refine EqE.idM ?_); first | refine EqE.mk 0 (by decide) ?_ | refine EqE.mk 1 (by decide) ?_)
      | ((with_reducible refine EqE.idS ?_); (refine EqE.fP ?_; (conv => whnf); fail_if_success (show forceL _ _)))
      | refine Cd.mk (Nat.le_of_ble_eq_true rfl) ?_
      | refine Cd.mk (by first | omega | (simp only [length_limbs, length_la]; omega)) ?_)
    exact ⟨_, ⟨6, rfl, by decide, rfl, by rw [ha, hb, hc, hp]; exact rfl⟩, by decide⟩
  | 6, _ =>
    obtain ⟨a1, a2, a3, a4⟩ := hh 6
    have hfac : fac 6 = 665280 := by decide
    have nx := tmE1 (X := X) hfac (by decide) (by decide)
    have f1 := rofd_sim 665280 (by decide) (by decide)
    have hf : Ht 64 (dof 665280 0) := Ht.i64 (by decide) (by decide)
    obtain ⟨b1, b2, b3, b4⟩ := hh 7
    have e1 : (tmS X 7).1 = (tmS X 6).1 + (tmS X 6).2.2.2 * dof 665280 0 := (tmA (X := X) (j := 6) hfac).1
    have e2 : (tmS X 7).2.1 = (tmS X 6).2.1 + -((tmS X 6).2.2.2 * dof 665280 0) := nx.1
    have e3 : (tmS X 7).2.2.1 = (tmS X 6).2.2.1 := nx.2
    have e4 : (tmS X 7).2.2.2 = (tmS X 6).2.2.2 * X := (tmA (X := X) (j := 6) hfac).2
    clear nx hh
    generalize (tmS X 6).1 = a at *
    generalize (tmS X 6).2.1 = b at *
    generalize (tmS X 6).2.2.1 = c at *
    generalize (tmS X 6).2.2.2 = p at *
    obtain ⟨a', ha⟩ : ∃ a', (tmS X 7).1 = a' := ⟨_, rfl⟩
    obtain ⟨b', hb⟩ : ∃ b', (tmS X 7).2.1 = b' := ⟨_, rfl⟩
    obtain ⟨c', hc⟩ : ∃ c', (tmS X 7).2.2.1 = c' := ⟨_, rfl⟩
    obtain ⟨p', hp⟩ : ∃ p', (tmS X 7).2.2.2 = p' := ⟨_, rfl⟩
    rw [ha] at e1
    rw [hb] at e2
    rw [hc] at e3
    rw [hp] at e4
    clear b1 b2 b3 b4
    have hT : Ht 2000 (p * dof 665280 0) := (a1.mul hf (c := 1500) (by decide)).mono (by decide)
    have s1 := rdmul_sim (a1.mono (by decide)) (hf.mono (by decide))
    have s2 := rdmul_sim (a1.mono (by decide)) (hX.mono (by decide))
    rw [← e4] at s2
    generalize p * dof 665280 0 = T at *
    have s3 := rdneg_sim (hT.mono (by decide))
    have hU := hT.neg
    have s4 := rdadd_sim (a2.mono (by decide)) (hT.mono (by decide))
    rw [← e1] at s4
    have s5 := rdadd_sim (a3.mono (by decide)) (hU.mono (by decide))
    rw [← e2] at s5
    generalize -T = U at *
    subst e3
    repeat' ((conv => whnf); first
      | with_reducible refine CallX.data ?_
      | with_reducible refine Br.dec (fun _ => ?_) (fun h => absurd (by omega) h)
      | refine CallE.mk _ _ (f1) ?_
      | refine CallE.mk _ _ (s1) ?_
      | refine CallE.mk _ _ (s3) ?_
      | refine CallE.mk _ _ (s4) ?_
      | refine CallE.mk _ _ (s5) ?_
      | refine CallE.mk _ _ (s2) ?_
      | refine RegE.early (Cd.mk (show regOk _ _ _ _ = true by kernel_rfl) ?_)
      | refine Cd.mk rfl ?_
      | (refine TkE.fL ?_; (conv => whnf); fail_if_success (show forceL _ _))
      | refine LoopEnd.go _ _ ⟨.inl rfl, rfl, rfl, by first | rfl | (repeat first | exact all_nil _ | refine all_la _ _ _ _ _ ?_)⟩ ?_
      | ((with_reducible refine EqE.idW ?_); first | refine EqE.mk 95040 (by decide) ?_ | refine EqE.mk ((7 : Nat) : Int) (by decide) ?_ | refine EqE.mk 3 (by decide) ?_ | refine EqE.mk 1 (by decide) ?_)
      | ((with_reducible refine EqE.idM ?_); first | refine EqE.mk 0 (by decide) ?_ | refine EqE.mk 1 (by decide) ?_)
      | ((with_reducible refine EqE.idS ?_); (refine EqE.fP ?_; (conv => whnf); fail_if_success (show forceL _ _)))
      | refine Cd.mk (Nat.le_of_ble_eq_true rfl) ?_
      | refine Cd.mk (by first | omega | (simp only [length_limbs, length_la]; omega)) ?_)
    exact ⟨_, ⟨7, rfl, by decide, rfl, by rw [ha, hb, hc, hp]; exact rfl⟩, by decide⟩
  | 7, _ =>
    obtain ⟨a1, a2, a3, a4⟩ := hh 7
    have hfac : fac 7 = 95040 := by decide
    have nx := tmO1 (X := X) hfac (by decide) (by decide)
    have f1 := rofd_sim 95040 (by decide) (by decide)
    have hf : Ht 64 (dof 95040 0) := Ht.i64 (by decide) (by decide)
    obtain ⟨b1, b2, b3, b4⟩ := hh 8
    have e1 : (tmS X 8).1 = (tmS X 7).1 + (tmS X 7).2.2.2 * dof 95040 0 := (tmA (X := X) (j := 7) hfac).1
    have e2 : (tmS X 8).2.1 = (tmS X 7).2.1 := nx.1
    have e3 : (tmS X 8).2.2.1 = (tmS X 7).2.2.1 + -((tmS X 7).2.2.2 * dof 95040 0) := nx.2
    have e4 : (tmS X 8).2.2.2 = (tmS X 7).2.2.2 * X := (tmA (X := X) (j := 7) hfac).2
    clear nx hh
    generalize (tmS X 7).1 = a at *
    generalize (tmS X 7).2.1 = b at *
    generalize (tmS X 7).2.2.1 = c at *
    generalize (tmS X 7).2.2.2 = p at *
    obtain ⟨a', ha⟩ : ∃ a', (tmS X 8).1 = a' := ⟨_, rfl⟩
    obtain ⟨b', hb⟩ : ∃ b', (tmS X 8).2.1 = b' := ⟨_, rfl⟩
    obtain ⟨c', hc⟩ : ∃ c', (tmS X 8).2.2.1 = c' := ⟨_, rfl⟩
    obtain ⟨p', hp⟩ : ∃ p', (tmS X 8).2.2.2 = p' := ⟨_, rfl⟩
    rw [ha] at e1
    rw [hb] at e2
    rw [hc] at e3
    rw [hp] at e4
    clear b1 b2 b3 b4
    have hT : Ht 2000 (p * dof 95040 0) := (a1.mul hf (c := 1500) (by decide)).mono (by decide)
    have s1 := rdmul_sim (a1.mono (by decide)) (hf.mono (by decide))
    have s2 := rdmul_sim (a1.mono (by decide)) (hX.mono (by decide))
    rw [← e4] at s2
    generalize p * dof 95040 0 = T at *
    have s3 := rdneg_sim (hT.mono (by decide))
    have hU := hT.neg
    have s4 := rdadd_sim (a2.mono (by decide)) (hT.mono (by decide))
    rw [← e1] at s4
    have s5 := rdadd_sim (a4.mono (by decide)) (hU.mono (by decide))
    rw [← e3] at s5
    generalize -T = U at *
    subst e2
    repeat' ((conv => whnf); first
      | with_reducible refine CallX.data ?_
      | with_reducible refine Br.dec (fun _ => ?_) (fun h => absurd (by omega) h)
      | refine CallE.mk _ _ (f1) ?_
      | refine CallE.mk _ _ (s1) ?_
      | refine CallE.mk _ _ (s3) ?_
      | refine CallE.mk _ _ (s4) ?_
      | refine CallE.mk _ _ (s5) ?_
      | refine CallE.mk _ _ (s2) ?_
      | refine RegE.early (Cd.mk (show regOk _ _ _ _ = true by kernel_rfl) ?_)
      | refine Cd.mk rfl ?_
      | (refine TkE.fL ?_; (conv => whnf); fail_if_success (show forceL _ _))
      | refine LoopEnd.go _ _ ⟨.inl rfl, rfl, rfl, by first | rfl | (repeat first | exact all_nil _ | refine all_la _ _ _ _ _ ?_)⟩ ?_
      | ((with_reducible refine EqE.idW ?_); first | refine EqE.mk 11880 (by decide) ?_ | refine EqE.mk ((8 : Nat) : Int) (by decide) ?_ | refine EqE.mk 3 (by decide) ?_ | refine EqE.mk 2 (by decide) ?_)
      | ((with_reducible refine EqE.idM ?_); refine EqE.mk 1 (by decide) ?_)
      | ((with_reducible refine EqE.idS ?_); (refine EqE.fP ?_; (conv => whnf); fail_if_success (show forceL _ _)))
      | refine Cd.mk (Nat.le_of_ble_eq_true rfl) ?_
      | refine Cd.mk (by first | omega | (simp only [length_limbs, length_la]; omega)) ?_)
    exact ⟨_, ⟨8, rfl, by decide, rfl, by rw [ha, hb, hc, hp]; exact rfl⟩, by decide⟩
  | 8, _ =>
    obtain ⟨a1, a2, a3, a4⟩ := hh 8
    have hfac : fac 8 = 11880 := by decide
    have nx := tmE0 (X := X) hfac (by decide) (by decide)
    have f1 := rofd_sim 11880 (by decide) (by decide)
    have hf : Ht 64 (dof 11880 0) := Ht.i64 (by decide) (by decide)
    obtain ⟨b1, b2, b3, b4⟩ := hh 9
    have e1 : (tmS X 9).1 = (tmS X 8).1 + (tmS X 8).2.2.2 * dof 11880 0 := (tmA (X := X) (j := 8) hfac).1
    have e2 : (tmS X 9).2.1 = (tmS X 8).2.1 + ((tmS X 8).2.2.2 * dof 11880 0) := nx.1
    have e3 : (tmS X 9).2.2.1 = (tmS X 8).2.2.1 := nx.2
    have e4 : (tmS X 9).2.2.2 = (tmS X 8).2.2.2 * X := (tmA (X := X) (j := 8) hfac).2
    clear nx hh
    generalize (tmS X 8).1 = a at *
    generalize (tmS X 8).2.1 = b at *
    generalize (tmS X 8).2.2.1 = c at *
    generalize (tmS X 8).2.2.2 = p at *
    obtain ⟨a', ha⟩ : ∃ a', (tmS X 9).1 = a' := ⟨_, rfl⟩
    obtain ⟨b', hb⟩ : ∃ b', (tmS X 9).2.1 = b' := ⟨_, rfl⟩
    obtain ⟨c', hc⟩ : ∃ c', (tmS X 9).2.2.1 = c' := ⟨_, rfl⟩
    obtain ⟨p', hp⟩ : ∃ p', (tmS X 9).2.2.2 = p' := ⟨_, rfl⟩
    rw [ha] at e1
    rw [hb] at e2
    rw [hc] at e3
    rw [hp] at e4
    clear b1 b2 b3 b4
    have hT : Ht 2000 (p * dof 11880 0) := (a1.mul hf (c := 1500) (by decide)).mono (by decide)
    have s1 := rdmul_sim (a1.mono (by decide)) (hf.mono (by decide))
    have s2 := rdmul_sim (a1.mono (by decide)) (hX.mono (by decide))
    rw [← e4] at s2
    generalize p * dof 11880 0 = T at *
    have hU := hT
    have s4 := rdadd_sim (a2.mono (by decide)) (hT.mono (by decide))
    rw [← e1] at s4
    have s5 := rdadd_sim (a3.mono (by decide)) (hU.mono (by decide))
    rw [← e2] at s5
    subst e3
    repeat' ((conv => whnf); first
      | with_reducible refine CallX.data ?_
      | with_reducible refine Br.dec (fun _ => ?_) (fun h => absurd (by omega) h)
      | with_reducible refine Br.dec (fun h => absurd h (by omega)) (fun _ => ?_)
      | refine CallE.mk _ _ (f1) ?_
      | refine CallE.mk _ _ (s1) ?_
      | refine CallE.mk _ _ (s4) ?_
      | refine CallE.mk _ _ (s5) ?_
      | refine CallE.mk _ _ (s2) ?_
      | refine RegE.early (Cd.mk (show regOk _ _ _ _ = true by kernel_rfl) ?_)
      | refine Cd.mk rfl ?_
      | (refine TkE.fL ?_; (conv => whnf); fail_if_success (show forceL _ _))
      | refine LoopEnd.go _ _ ⟨.inl rfl, rfl, rfl, by first | rfl | (repeat first | exact all_nil _ | refine all_la _ _ _ _ _ ?_)⟩ ?_
      | ((with_reducible refine EqE.idW ?_); first | refine EqE.mk 1320 (by decide) ?_ | refine EqE.mk ((9 : Nat) : Int) (by decide) ?_ | refine EqE.mk 4 (by decide) ?_ | refine EqE.mk 1 (by decide) ?_)
      | ((with_reducible refine EqE.idM ?_); refine EqE.mk 0 (by decide) ?_)
      | ((with_reducible refine EqE.idS ?_); (refine EqE.fP ?_; (conv => whnf); fail_if_success (show forceL _ _)))
      | refine Cd.mk (Nat.le_of_ble_eq_true rfl) ?_
      | refine Cd.mk (by first | omega | (simp only [length_limbs, length_la]; omega)) ?_)
    exact ⟨_, ⟨9, rfl, by decide, rfl, by rw [ha, hb, hc, hp]; exact rfl⟩, by decide⟩
  | 9, _ =>
    obtain ⟨a1, a2, a3, a4⟩ := hh 9
    have hfac : fac 9 = 1320 := by decide
    have nx := tmO0 (X := X) hfac (by decide) (by decide)
    have f1 := rofd_sim 1320 (by decide) (by decide)
    have hf : Ht 64 (dof 1320 0) := Ht.i64 (by decide) (by decide)
    obtain ⟨b1, b2, b3, b4⟩ := hh 10
    have e1 : (tmS X 10).1 = (tmS X 9).1 + (tmS X 9).2.2.2 * dof 1320 0 := (tmA (X := X) (j := 9) hfac).1
    have e2 : (tmS X 10).2.1 = (tmS X 9).2.1 := nx.1
    have e3 : (tmS X 10).2.2.1 = (tmS X 9).2.2.1 + ((tmS X 9).2.2.2 * dof 1320 0) := nx.2
    have e4 : (tmS X 10).2.2.2 = (tmS X 9).2.2.2 * X := (tmA (X := X) (j := 9) hfac).2
    clear nx hh
    generalize (tmS X 9).1 = a at *
    generalize (tmS X 9).2.1 = b at *
    generalize (tmS X 9).2.2.1 = c at *
    generalize (tmS X 9).2.2.2 = p at *
    obtain ⟨a', ha⟩ : ∃ a', (tmS X 10).1 = a' := ⟨_, rfl⟩
    obtain ⟨b', hb⟩ : ∃ b', (tmS X 10).2.1 = b' := ⟨_, rfl⟩
    obtain ⟨c', hc⟩ : ∃ c', (tmS X 10).2.2.1 = c' := ⟨_, rfl⟩
    obtain ⟨p', hp⟩ : ∃ p', (tmS X 10).2.2.2 = p' := ⟨_, rfl⟩
    rw [ha] at e1
    rw [hb] at e2
    rw [hc] at e3
    rw [hp] at e4
    clear b1 b2 b3 b4
    have hT : Ht 2000 (p * dof 1320 0) := (a1.mul hf (c := 1500) (by decide)).mono (by decide)
    have s1 := rdmul_sim (a1.mono (by decide)) (hf.mono (by decide))
    have s2 := rdmul_sim (a1.mono (by decide)) (hX.mono (by decide))
    rw [← e4] at s2
    generalize p * dof 1320 0 = T at *
    have hU := hT
    have s4 := rdadd_sim (a2.mono (by decide)) (hT.mono (by decide))
    rw [← e1] at s4
    have s5 := rdadd_sim (a4.mono (by decide)) (hU.mono (by decide))
    rw [← e3] at s5
    subst e2
    repeat' ((conv => whnf); first
      | with_reducible refine CallX.data ?_
      | with_reducible refine Br.dec (fun _ => ?_) (fun h => absurd (by omega) h)
      | with_reducible refine Br.dec (fun h => absurd h (by omega)) (fun _ => ?_)
      | refine CallE.mk _ _ (f1) ?_
      | refine CallE.mk _ _ (s1) ?_
      | refine CallE.mk _ _ (s4) ?_
      | refine CallE.mk _ _ (s5) ?_
      | refine CallE.mk _ _ (s2) ?_
      | refine RegE.early (Cd.mk (show regOk _ _ _ _ = true by kernel_rfl) ?_)
      | refine Cd.mk rfl ?_
      | (refine TkE.fL ?_; (conv => whnf); fail_if_success (show forceL _ _))
      | refine LoopEnd.go _ _ ⟨.inl rfl, rfl, rfl, by first | rfl | (repeat first | exact all_nil _ | refine all_la _ _ _ _ _ ?_)⟩ ?_
      | ((with_reducible refine EqE.idW ?_); first | refine EqE.mk 132 (by decide) ?_ | refine EqE.mk ((10 : Nat) : Int) (by decide) ?_ | refine EqE.mk 4 (by decide) ?_ | refine EqE.mk 2 (by decide) ?_)
      | ((with_reducible refine EqE.idM ?_); first | refine EqE.mk 0 (by decide) ?_ | refine EqE.mk 1 (by decide) ?_)
      | ((with_reducible refine EqE.idS ?_); (refine EqE.fP ?_; (conv => whnf); fail_if_success (show forceL _ _)))
      | refine Cd.mk (Nat.le_of_ble_eq_true rfl) ?_
      | refine Cd.mk (by first | omega | (simp only [length_limbs, length_la]; omega)) ?_)
    exact ⟨_, ⟨10, rfl, by decide, rfl, by rw [ha, hb, hc, hp]; exact rfl⟩, by decide⟩
  | 10, _ =>
    obtain ⟨a1, a2, a3, a4⟩ := hh 10
    have hfac : fac 10 = 132 := by decide
    have nx := tmE1 (X := X) hfac (by decide) (by decide)
    have f1 := rofd_sim 132 (by decide) (by decide)
    have hf : Ht 64 (dof 132 0) := Ht.i64 (by decide) (by decide)
    obtain ⟨b1, b2, b3, b4⟩ := hh 11
    have e1 : (tmS X 11).1 = (tmS X 10).1 + (tmS X 10).2.2.2 * dof 132 0 := (tmA (X := X) (j := 10) hfac).1
    have e2 : (tmS X 11).2.1 = (tmS X 10).2.1 + -((tmS X 10).2.2.2 * dof 132 0) := nx.1
    have e3 : (tmS X 11).2.2.1 = (tmS X 10).2.2.1 := nx.2
    have e4 : (tmS X 11).2.2.2 = (tmS X 10).2.2.2 * X := (tmA (X := X) (j := 10) hfac).2
    clear nx hh
    generalize (tmS X 10).1 = a at *
    generalize (tmS X 10).2.1 = b at *
    generalize (tmS X 10).2.2.1 = c at *
    generalize (tmS X 10).2.2.2 = p at *
    obtain ⟨a', ha⟩ : ∃ a', (tmS X 11).1 = a' := ⟨_, rfl⟩
    obtain ⟨b', hb⟩ : ∃ b', (tmS X 11).2.1 = b' := ⟨_, rfl⟩
    obtain ⟨c', hc⟩ : ∃ c', (tmS X 11).2.2.1 = c' := ⟨_, rfl⟩
    obtain ⟨p', hp⟩ : ∃ p', (tmS X 11).2.2.2 = p' := ⟨_, rfl⟩
    rw [ha] at e1
    rw [hb] at e2
    rw [hc] at e3
    rw [hp] at e4
    clear b1 b2 b3 b4
    have hT : Ht 2000 (p * dof 132 0) := (a1.mul hf (c := 1500) (by decide)).mono (by decide)
    have s1 := rdmul_sim (a1.mono (by decide)) (hf.mono (by decide))
    have s2 := rdmul_sim (a1.mono (by decide)) (hX.mono (by decide))
    rw [← e4] at s2
    generalize p * dof 132 0 = T at *
    have s3 := rdneg_sim (hT.mono (by decide))
    have hU := hT.neg
    have s4 := rdadd_sim (a2.mono (by decide)) (hT.mono (by decide))
    rw [← e1] at s4
    have s5 := rdadd_sim (a3.mono (by decide)) (hU.mono (by decide))
    rw [← e2] at s5
    generalize -T = U at *
    subst e3
    repeat' ((conv => whnf); first
      | with_reducible refine CallX.data ?_
      | with_reducible refine Br.dec (fun _ => ?_) (fun h => absurd (by omega) h)
      | refine CallE.mk _ _ (f1) ?_
      | refine CallE.mk _ _ (s1) ?_
      | refine CallE.mk _ _ (s3) ?_
      | refine CallE.mk _ _ (s4) ?_
      | refine CallE.mk _ _ (s5) ?_
      | refine CallE.mk _ _ (s2) ?_
      | refine RegE.early (Cd.mk (show regOk _ _ _ _ = true by kernel_rfl) ?_)
      | refine Cd.mk rfl ?_
      | (refine TkE.fL ?_; (conv => whnf); fail_if_success (show forceL _ _))
      | refine LoopEnd.go _ _ ⟨.inl rfl, rfl, rfl, by first | rfl | (repeat first | exact all_nil _ | refine all_la _ _ _ _ _ ?_)⟩ ?_
      | ((with_reducible refine EqE.idW ?_); first | refine EqE.mk 12 (by decide) ?_ | refine EqE.mk ((11 : Nat) : Int) (by decide) ?_ | refine EqE.mk 5 (by decide) ?_ | refine EqE.mk 1 (by decide) ?_)
      | ((with_reducible refine EqE.idM ?_); first | refine EqE.mk 0 (by decide) ?_ | refine EqE.mk 1 (by decide) ?_)
      | ((with_reducible refine EqE.idS ?_); (refine EqE.fP ?_; (conv => whnf); fail_if_success (show forceL _ _)))
      | refine Cd.mk (Nat.le_of_ble_eq_true rfl) ?_
      | refine Cd.mk (by first | omega | (simp only [length_limbs, length_la]; omega)) ?_)
    exact ⟨_, ⟨11, rfl, by decide, rfl, by rw [ha, hb, hc, hp]; exact rfl⟩, by decide⟩
  | 11, _ =>
    obtain ⟨a1, a2, a3, a4⟩ := hh 11
    have hfac : fac 11 = 12 := by decide
    have nx := tmO1 (X := X) hfac (by decide) (by decide)
    have f1 := rofd_sim 12 (by decide) (by decide)
    have hf : Ht 64 (dof 12 0) := Ht.i64 (by decide) (by decide)
    obtain ⟨b1, b2, b3, b4⟩ := hh 12
    have e1 : (tmS X 12).1 = (tmS X 11).1 + (tmS X 11).2.2.2 * dof 12 0 := (tmA (X := X) (j := 11) hfac).1
    have e2 : (tmS X 12).2.1 = (tmS X 11).2.1 := nx.1
    have e3 : (tmS X 12).2.2.1 = (tmS X 11).2.2.1 + -((tmS X 11).2.2.2 * dof 12 0) := nx.2
    have e4 : (tmS X 12).2.2.2 = (tmS X 11).2.2.2 * X := (tmA (X := X) (j := 11) hfac).2
    clear nx hh
    generalize (tmS X 11).1 = a at *
    generalize (tmS X 11).2.1 = b at *
    generalize (tmS X 11).2.2.1 = c at *
    generalize (tmS X 11).2.2.2 = p at *
    obtain ⟨a', ha⟩ : ∃ a', (tmS X 12).1 = a' := ⟨_, rfl⟩
    obtain ⟨b', hb⟩ : ∃ b', (tmS X 12).2.1 = b' := ⟨_, rfl⟩
    obtain ⟨c', hc⟩ : ∃ c', (tmS X 12).2.2.1 = c' := ⟨_, rfl⟩
    obtain ⟨p', hp⟩ : ∃ p', (tmS X 12).2.2.2 = p' := ⟨_, rfl⟩
    rw [ha] at e1
    rw [hb] at e2
    rw [hc] at e3
    rw [hp] at e4
    clear b1 b2 b3 b4
    have hT : Ht 2000 (p * dof 12 0) := (a1.mul hf (c := 1500) (by decide)).mono (by decide)
    have s1 := rdmul_sim (a1.mono (by decide)) (hf.mono (by decide))
    have s2 := rdmul_sim (a1.mono (by decide)) (hX.mono (by decide))
    rw [← e4] at s2
    generalize p * dof 12 0 = T at *
    have s3 := rdneg_sim (hT.mono (by decide))
    have hU := hT.neg
    have s4 := rdadd_sim (a2.mono (by decide)) (hT.mono (by decide))
    rw [← e1] at s4
    have s5 := rdadd_sim (a4.mono (by decide)) (hU.mono (by decide))
    rw [← e3] at s5
    generalize -T = U at *
    subst e2
    repeat' ((conv => whnf); first
      | with_reducible refine CallX.data ?_
      | with_reducible refine Br.dec (fun _ => ?_) (fun h => absurd (by omega) h)
      | refine CallE.mk _ _ (f1) ?_
      | refine CallE.mk _ _ (s1) ?_
      | refine CallE.mk _ _ (s3) ?_
      | refine CallE.mk _ _ (s4) ?_
      | refine CallE.mk _ _ (s5) ?_
      | refine CallE.mk _ _ (s2) ?_
      | refine RegE.early (Cd.mk (show regOk _ _ _ _ = true by kernel_rfl) ?_)
      | refine Cd.mk rfl ?_
      | (refine TkE.fL ?_; (conv => whnf); fail_if_success (show forceL _ _))
      | refine LoopEnd.go _ _ ⟨.inl rfl, rfl, rfl, by first | rfl | (repeat first | exact all_nil _ | refine all_la _ _ _ _ _ ?_)⟩ ?_
      | ((with_reducible refine EqE.idW ?_); first | refine EqE.mk 1 (by decide) ?_ | refine EqE.mk ((12 : Nat) : Int) (by decide) ?_ | refine EqE.mk 5 (by decide) ?_ | refine EqE.mk 2 (by decide) ?_)
      | ((with_reducible refine EqE.idM ?_); refine EqE.mk 1 (by decide) ?_)
      | ((with_reducible refine EqE.idS ?_); (refine EqE.fP ?_; (conv => whnf); fail_if_success (show forceL _ _)))
      | refine Cd.mk (Nat.le_of_ble_eq_true rfl) ?_
      | refine Cd.mk (by first | omega | (simp only [length_limbs, length_la]; omega)) ?_)
    exact ⟨_, ⟨12, rfl, by decide, rfl, by rw [ha, hb, hc, hp]; exact rfl⟩, by decide⟩
  | 12, _ =>
    obtain ⟨a1, a2, a3, a4⟩ := hh 12
    have hfac : fac 12 = 1 := by decide
    have nx := tmE0 (X := X) hfac (by decide) (by decide)
    have f1 := rofd_sim 1 (by decide) (by decide)
    have hf : Ht 64 (dof 1 0) := Ht.i64 (by decide) (by decide)
    obtain ⟨b1, b2, b3, b4⟩ := hh 13
    have e1 : (tmS X 13).1 = (tmS X 12).1 + (tmS X 12).2.2.2 * dof 1 0 := (tmA (X := X) (j := 12) hfac).1
    have e2 : (tmS X 13).2.1 = (tmS X 12).2.1 + ((tmS X 12).2.2.2 * dof 1 0) := nx.1
    have e3 : (tmS X 13).2.2.1 = (tmS X 12).2.2.1 := nx.2
    have e4 : (tmS X 13).2.2.2 = (tmS X 12).2.2.2 * X := (tmA (X := X) (j := 12) hfac).2
    clear nx hh
    generalize (tmS X 12).1 = a at *
    generalize (tmS X 12).2.1 = b at *
    generalize (tmS X 12).2.2.1 = c at *
    generalize (tmS X 12).2.2.2 = p at *
    obtain ⟨a', ha⟩ : ∃ a', (tmS X 13).1 = a' := ⟨_, rfl⟩
    obtain ⟨b', hb⟩ : ∃ b', (tmS X 13).2.1 = b' := ⟨_, rfl⟩
    obtain ⟨c', hc⟩ : ∃ c', (tmS X 13).2.2.1 = c' := ⟨_, rfl⟩
    obtain ⟨p', hp⟩ : ∃ p', (tmS X 13).2.2.2 = p' := ⟨_, rfl⟩
    rw [ha] at e1
    rw [hb] at e2
    rw [hc] at e3
    rw [hp] at e4
    clear b1 b2 b3 b4
    have hT : Ht 2000 (p * dof 1 0) := (a1.mul hf (c := 1500) (by decide)).mono (by decide)
    have s1 := rdmul_sim (a1.mono (by decide)) (hf.mono (by decide))
    have s2 := rdmul_sim (a1.mono (by decide)) (hX.mono (by decide))
    rw [← e4] at s2
    generalize p * dof 1 0 = T at *
    have hU := hT
    have s4 := rdadd_sim (a2.mono (by decide)) (hT.mono (by decide))
    rw [← e1] at s4
    have s5 := rdadd_sim (a3.mono (by decide)) (hU.mono (by decide))
    rw [← e2] at s5
    subst e3
    repeat' ((conv => whnf); first
      | with_reducible refine CallX.data ?_
      | with_reducible refine Br.dec (fun _ => ?_) (fun h => absurd (by omega) h)
      | with_reducible refine Br.dec (fun h => absurd h (by omega)) (fun _ => ?_)
      | refine CallE.mk _ _ (f1) ?_
      | refine CallE.mk _ _ (s1) ?_
      | refine CallE.mk _ _ (s4) ?_
      | refine CallE.mk _ _ (s5) ?_
      | refine CallE.mk _ _ (s2) ?_
      | refine RegE.early (Cd.mk (show regOk _ _ _ _ = true by kernel_rfl) ?_)
      | refine Cd.mk rfl ?_
      | (refine TkE.fL ?_; (conv => whnf); fail_if_success (show forceL _ _))
      | refine LoopEnd.go _ _ ⟨.inl rfl, rfl, rfl, by first | rfl | (repeat first | exact all_nil _ | refine all_la _ _ _ _ _ ?_)⟩ ?_
      | ((with_reducible refine EqE.idW ?_); first | refine EqE.mk 0 (by decide) ?_ | refine EqE.mk ((13 : Nat) : Int) (by decide) ?_ | refine EqE.mk 6 (by decide) ?_ | refine EqE.mk 1 (by decide) ?_)
      | ((with_reducible refine EqE.idM ?_); refine EqE.mk 0 (by decide) ?_)
      | ((with_reducible refine EqE.idS ?_); (refine EqE.fP ?_; (conv => whnf); fail_if_success (show forceL _ _)))
      | refine Cd.mk (Nat.le_of_ble_eq_true rfl) ?_
      | refine Cd.mk (by first | omega | (simp only [length_limbs, length_la]; omega)) ?_)
    exact ⟨_, ⟨13, rfl, by decide, rfl, by rw [ha, hb, hc, hp]; exact rfl⟩, by decide⟩
  | 13, _ =>
    generalize (tmS X 13).1 = a at *
    generalize (tmS X 13).2.1 = b at *
    generalize (tmS X 13).2.2.1 = c at *
    generalize (tmS X 13).2.2.2 = p at *
    repeat' ((conv => whnf); first
      | with_reducible refine Br.dec (fun h => absurd h (by omega)) (fun _ => ?_)
      | refine RegE.early (Cd.mk (show regOk _ _ _ _ = true by kernel_rfl) ?_)
      | refine Cd.mk rfl ?_
      | (refine TkE.fL ?_; (conv => whnf); fail_if_success (show forceL _ _))
      | refine Res.mk ?_
      | ((with_reducible refine EqE.idS ?_); (refine EqE.fP ?_; (conv => whnf); fail_if_success (show forceL _ _)))
      | refine Cd.mk (Nat.le_of_ble_eq_true rfl) ?_)
    rfl
end Go.Ev.Ar
