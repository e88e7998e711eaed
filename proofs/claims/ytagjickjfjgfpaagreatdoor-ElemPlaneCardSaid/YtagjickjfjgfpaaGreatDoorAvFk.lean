/- Contracts of the given functions, on data. Conditions stand in each theorem. -/
import Derived.Test.YtagjickjfjgfpaaGreatDoorAvFe
set_option linter.unusedSimpArgs false
set_option linter.unusedVariables false
namespace Go.Ev.Ar
open Go Go.Ev Go.Proofs

theorem part_sim (n : Int) (h1 : -32768 ≤ n) (h2 : n ≤ 32767) : Sim Tryz.prog G0 false 13 [.int .i16 n] (dyD (dof (n.tmod 2049) (-11))) := by
  obtain ⟨k, hk⟩ : ∃ k, n.tmod 2049 = k := ⟨_, rfl⟩
  have k1 : -2048 ≤ k ∧ k ≤ 2048 := by
    have a := Int.tmod_lt_of_pos n (b := 2049) (by decide)
    have b := Int.lt_tmod_of_pos n (b := 2049) (by decide)
    omega
  rw [hk]
  have o := rofd_sim k (by omega) (by omega)
  have hd : Ht 64 (dof k 0) := Ht.i64 (by omega) (by omega)
  obtain ⟨d1, d2, d3⟩ := hd.parts
  have mk := mkq_is (q := dof k 0) (e := dexp (dof k 0) - 11) (d1.mono (by decide)) (by omega) (by omega)
  rw [show dof (dman (dof k 0)) (dexp (dof k 0) - 11) = dof k (-11) by
    have a : dof (dman (dof k 0)) (dexp (dof k 0) - 11) = dof (dman (dof k 0)) (dexp (dof k 0)) * dof 1 (-11) := by rw [dof_mul, Int.mul_one]; rfl
    rw [a, dof_self, dof_mul, Int.mul_one]; rfl] at mk
  clear hd d1
  generalize dof k (-11) = X at *
  generalize dof k 0 = Y at *
  refine sim_mk tab_ok Tryz.func13 rfl (by kernel_rfl) rfl ⟨Nat.le_of_ble_eq_true rfl, Nat.le_of_ble_eq_true rfl⟩ ?_
  repeat' ((conv => whnf); first
    | with_reducible refine CallX.data ?_
    | refine CallE.mk _ _ (o) ?_
    | refine CallE.mk _ _ (mk) ?_
    | refine RegE.early (Cd.mk (show regOk _ _ _ _ = true by kernel_rfl) ?_)
    | refine Cd.mk rfl ?_
    | refine NthE.mk _ rfl ?_
    | (refine TkE.fL ?_; (conv => whnf); fail_if_success (show forceL _ _))
    | refine Res.mk ?_
    | ((with_reducible refine EqE.idW ?_); first | refine EqE.mk k (wrap_in (by omega) (by omega)) ?_ | refine EqE.mk (dexp Y - 11) (wrap_in (by omega) (by omega)) ?_)
    | ((with_reducible refine EqE.idM ?_); refine EqE.mk k hk ?_)
    | ((with_reducible refine EqE.idS ?_); (refine EqE.fP ?_; (conv => whnf); fail_if_success (show forceL _ _)))
    | refine Cd.mk (Nat.le_of_ble_eq_true rfl) ?_
    | refine Cd.mk (by first | omega | (simp only [length_limbs, length_la]; omega)) ?_)
  rfl
/-- From -1 to 1. -/
theorem unit_pt {k : Int} (h1 : -2048 ≤ k) (h2 : k ≤ 2048) : smallP (dof k (-11)) = true ∧ qab (dof k (-11)).toRat ≤ 1 ∧ Ht 100 (dof k (-11)) := by
  have e : dof k (-11) = dof (k * 2 ^ 1) (-12) := dof_up k (-11) (S := 1) (by decide)
  have a : dabs (dof k (-11)) ≤ dof 1 0 := by
    rw [dabs_le_iff, show dof 1 0 = dof 2048 (-11) by decide, dof_neg, dof_le, dof_le]; omega
  have b := q_le.2 a
  rw [ab_rat, show dof 1 0 = 1 by decide, q_one] at b
  refine ⟨?_, b, ?_⟩
  · rw [e]; exact (pt_small (by omega)).1
  · exact Ht.dof (a := 64) (b := 11) (Zt.small (by omega) (by decide)) (by decide) (by decide) (by decide)
end Go.Ev.Ar
