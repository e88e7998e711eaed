/- Contracts of the given functions, on data. Conditions stand in each theorem. -/
import Derived.Test.YtagjickjfjgfpaaGreatDoorGAvZ
import Derived.Test.YtagjickjfjgfpaaGreatDoorGAvRZ
import Derived.Test.YtagjickjfjgfpaaGreatDoorGEvZ
import Derived.Test.YtagjickjfjgfpaaGreatDoorGAvRefD
set_option linter.unusedSimpArgs false
set_option linter.unusedVariables false
namespace Go.Ev.Ar
open Go Go.Ev Go.Proofs

/-- Told as it must be? -/
def isDy (b : Bool) (l : List UInt32) (e : Int) : Bool := cutOk l && (decide (0 < l.length) || !b) && decide (-20000 ≤ e) && decide (e ≤ 20000) && (if l.length = 0 then decide (e = 0) else decide ((l.getD 0 0).toNat % 2 = 1))
theorem isDy_no {b : Bool} {l : List UInt32} {e : Int} (h : (cutOk l && (decide (0 < l.length) || !b)) = false ∨ e < -20000 ∨ 20000 < e) : isDy b l e = false := by
  unfold isDy
  rcases h with h | h | h
  · rw [h]; rfl
  · rw [decide_eq_false (show ¬ -20000 ≤ e by omega)]; simp
  · rw [decide_eq_false (show ¬ e ≤ 20000 by omega)]; simp
theorem isDy_nil {b : Bool} {l : List UInt32} {e : Int} (h : (cutOk l && (decide (0 < l.length) || !b)) = true) (h1 : ¬ e < -20000) (h2 : ¬ e > 20000) (h3 : l.length = 0) : isDy b l e = decide (e = 0) := by
  unfold isDy
  rw [h, decide_eq_true (show -20000 ≤ e by omega), decide_eq_true (show e ≤ 20000 by omega), if_pos h3]; rfl
theorem isDy_odd {b : Bool} {l : List UInt32} {e : Int} (h : (cutOk l && (decide (0 < l.length) || !b)) = true) (h1 : ¬ e < -20000) (h2 : ¬ e > 20000) (h3 : ¬ l.length = 0) : isDy b l e = decide ((l.getD 0 0).toNat % 2 = 1) := by
  unfold isDy
  rw [h, decide_eq_true (show -20000 ≤ e by omega), decide_eq_true (show e ≤ 20000 by omega), if_neg h3]; rfl
theorem dis_sim (b : Bool) (l : List UInt32) (e : Int) (hl : l.length < 2^32) : Sim Tryz.prog G0 true 158 [.agg [.bool b, sl l, .int .i64 e]] (.bool (isDy b l e)) := by
  have hs := zis_sim (b := b) hl
  have hx := u32_lt (l.getD (Int.toNat 0) 0)
  refine sim_mk tab_ok Tryz.func158 rfl (by kernel_rfl) rfl ⟨Nat.le_of_ble_eq_true rfl, Nat.le_of_ble_eq_true rfl⟩ ?_
  repeat' ((conv => whnf); first
    | with_reducible refine CallX.data ?_
    | refine CallE.mk _ _ (hs) ?_
    | refine RegE.early (Cd.mk (show regOk _ _ _ _ = true by kernel_rfl) ?_)
    | refine Cd.mk rfl ?_
    | refine Br.t ?_
    | refine Br.f ?_
    | with_reducible refine Br.dec (fun _ => ?_) (fun _ => ?_)
    | refine Br.mk (fun _ => ?_) (fun _ => ?_)
    | refine NthE.mk _ (limbs_drop _ _ (by omega)) ?_
    | refine NthE.mk _ rfl ?_
    | (refine TkE.fL ?_; (conv => whnf); fail_if_success (show forceL _ _))
    | refine Res.mk ?_
    | ((with_reducible refine EqE.idW ?_); with_reducible refine EqE.mk _ (n_and1_32 _ (by omega)) ?_)
    | refine Cd.mk (by first | omega | (dsimp only; omega) | (simp only [length_limbs, length_la, Nat.mul_one, List.length_set, List.length_take, List.length_drop, List.length_replicate, List.length_append, Int.toNat_natCast]; omega) | (rw [length_la, Nat.mul_one]) | (rw [length_limbs, Nat.mul_one]) | (refine ⟨⟨Int.le_refl _, ?_⟩, ?_⟩ <;> first | omega | (rw [Int.toNat_zero]; omega)) | (simp only [length_limbs, length_la, Nat.mul_one, List.length_set, List.length_take, List.length_drop, List.length_replicate]; exact Nat.le_refl _)) ?_)
  all_goals show D.bool _ = D.bool _
  · rename_i h
    rw [isDy_no (.inl (by rw [Bool.not_eq_true'] at h; exact h))]
  · rename_i h h2
    rw [isDy_no (.inr (.inl h2))]
  · rename_i h h2 h3
    rw [isDy_no (.inr (.inr h3))]
  · rename_i h h2 h3 h4
    rw [isDy_nil (by rw [Bool.not_eq_false'] at h; exact h) h2 h3 (by omega)]
  · rename_i h h2 h3 h4
    rw [isDy_odd (by rw [Bool.not_eq_false'] at h; exact h) h2 h3 (by omega)]
    exact congrArg D.bool (decide_eq_decide.2 (by show (l.getD 0 0).toNat % 2 = 1 ↔ (((l.getD 0 0).toNat % 2 : Nat) : Int) = 1; omega))
theorem ris_sim (b : Bool) (l : List UInt32) (e : Int) (hl : l.length ≤ 4194304) : Sim Tryz.prog G0 true 101 [.agg [.bool b, sl l, .int .i64 e]] (.bool (isDy b l e)) := by
  have hs := risint_sim (b := b) hl
  have hx := u32_lt (l.getD (Int.toNat 0) 0)
  refine sim_mk tab_ok Tryz.func101 rfl (by kernel_rfl) rfl ⟨Nat.le_of_ble_eq_true rfl, Nat.le_of_ble_eq_true rfl⟩ ?_
  repeat' ((conv => whnf); first
    | with_reducible refine CallX.data ?_
    | refine CallE.mk _ _ (hs) ?_
    | refine RegE.early (Cd.mk (show regOk _ _ _ _ = true by kernel_rfl) ?_)
    | refine Cd.mk rfl ?_
    | refine Br.t ?_
    | refine Br.f ?_
    | with_reducible refine Br.dec (fun _ => ?_) (fun _ => ?_)
    | refine Br.mk (fun _ => ?_) (fun _ => ?_)
    | refine NthE.mk _ (limbs_drop _ _ (by omega)) ?_
    | refine NthE.mk _ rfl ?_
    | (refine TkE.fL ?_; (conv => whnf); fail_if_success (show forceL _ _))
    | refine Res.mk ?_
    | ((with_reducible refine EqE.idW ?_); with_reducible refine EqE.mk _ (n_and1_32 _ (by omega)) ?_)
    | refine Cd.mk (by first | omega | (dsimp only; omega) | (simp only [length_limbs, length_la, Nat.mul_one, List.length_set, List.length_take, List.length_drop, List.length_replicate, List.length_append, Int.toNat_natCast]; omega) | (rw [length_la, Nat.mul_one]) | (rw [length_limbs, Nat.mul_one]) | (refine ⟨⟨Int.le_refl _, ?_⟩, ?_⟩ <;> first | omega | (rw [Int.toNat_zero]; omega)) | (simp only [length_limbs, length_la, Nat.mul_one, List.length_set, List.length_take, List.length_drop, List.length_replicate]; exact Nat.le_refl _)) ?_)
  all_goals show D.bool _ = D.bool _
  · rename_i h
    rw [isDy_no (.inl (by rw [Bool.not_eq_true'] at h; exact h))]
  · rename_i h h2
    rw [isDy_no (.inr (.inl h2))]
  · rename_i h h2 h3
    rw [isDy_no (.inr (.inr h3))]
  · rename_i h h2 h3 h4
    rw [isDy_nil (by rw [Bool.not_eq_false'] at h; exact h) h2 h3 (by omega)]
  · rename_i h h2 h3 h4
    rw [isDy_odd (by rw [Bool.not_eq_false'] at h; exact h) h2 h3 (by omega)]
    exact congrArg D.bool (decide_eq_decide.2 (by show (l.getD 0 0).toNat % 2 = 1 ↔ (((l.getD 0 0).toNat % 2 : Nat) : Int) = 1; omega))
/-- A dyadic number's cells. -/
def dyA (q : Dyadic) : List A := [.d (.bool (zneg (dman q))), .d (sl (ofN (dman q).natAbs)), .d (.int .i64 (dexp q))]
def zeA : List A := [.d (.bool false), .d .nil, .d (.int .i64 0)]
theorem dpow_sim {x : D} {p : Dyadic} (n : Int) (hx : DyR x p) (hp : Ht 16000 p) : Sim Tryz.prog G0 false 229 [x, .int .i64 n] (dyD (p ^ (min (max n 0) 64).toNat)) := by
  have kx := hx
  obtain ⟨b, l, e, hl, h1, h2, _⟩ := hx
  generalize dof (zv b l) e = p at *
  refine sim_mk tab_ok Tryz.func229 rfl (by kernel_rfl) rfl ⟨Nat.le_of_ble_eq_true rfl, Nat.le_of_ble_eq_true rfl⟩ ?_
  repeat' ((conv => whnf); first
    | with_reducible refine CallX.data ?_
    | refine CallE.mk _ _ (dof_sim kx) ?_
    | refine CallE.mk _ _ (dofn_sim _ (by decide) (by decide)) ?_
    | refine RegE.early (Cd.mk (show regOk _ _ _ _ = true by kernel_rfl) ?_)
    | refine Cd.mk rfl ?_
    | (refine TkE.fL ?_; (conv => whnf); fail_if_success (show forceL _ _))
    | ((with_reducible refine EqE.idI ?_); first | refine EqE.mk _ (max_eq _ _) ?_ | refine EqE.mk _ (min_eq _ _) ?_)
    | ((with_reducible refine EqE.idS ?_); (refine EqE.fP ?_; (conv => whnf); fail_if_success (show forceL _ _)))
    | refine Cd.mk (Nat.le_of_ble_eq_true rfl) ?_)
  refine ⟨[], [2, 4, 5, 11, 12], [2, 4, 5], fun m ys h => ∃ (i : Nat), m = (min (max n 0) 64).toNat - i ∧ i ≤ (min (max n 0) 64).toNat ∧ ys = [.ptr 2 0, .ptr 4 0, .ptr 5 0, .d (.int .i64 (min (max n 0) 64)), .d (.int .i64 i)] ∧
    h = [(5, false, dyA (p ^ i)), (4, false, zeA), (2, false, dyA p)],
    ⟨_, _, _, ⟨.inl rfl, rfl, rfl, by first | rfl | (repeat first | exact all_nil _ | refine all_la _ _ _ _ _ ?_)⟩, 0, rfl, by omega, rfl, ?_⟩, ?_⟩
  · rw [Dyadic.pow_zero]; rfl
  rintro m ys h ⟨i, rfl, hi, rfl, rfl⟩
  obtain ⟨hp1, hp2, hp3⟩ := hp.parts
  by_cases hlt : i < (min (max n 0) 64).toNat
  · have hpi := (hp.pow i).mono (show 16000 * i + 1 ≤ 1024001 by omega)
    obtain ⟨hq1, hq2, hq3⟩ := hpi.parts
    have hz := hq1.mul hp1 (c := 2080002) (by decide)
    repeat' ((conv => whnf); first
      | with_reducible refine Br.dec (fun _ => ?_) (fun h => absurd (by omega) h)
      | refine CallE.mk _ _ (zmul_sim (.of (n := dman (p ^ i)) (hq1.mono (by decide))) (.of (n := dman p) (hp1.mono (by decide)))) ?_
      | refine CallE.mk _ _ (draw_sim (.of (hz.mono (by decide))) (hz.mono (by decide)) (by omega) (by omega)) ?_
      | refine RegE.early (Cd.mk (show regOk _ _ _ _ = true by kernel_rfl) ?_)
      | refine Cd.mk rfl ?_
      | refine NthE.mk _ rfl ?_
      | (refine TkE.fL ?_; (conv => whnf); fail_if_success (show forceL _ _))
      | refine LoopEnd.go _ _ ⟨.inl rfl, rfl, rfl, by first | rfl | (repeat first | exact all_nil _ | refine all_la _ _ _ _ _ ?_)⟩ ?_
      | ((with_reducible refine EqE.idW ?_); first | with_reducible refine EqE.mk _ (n_succ _ (by omega)) ?_ | refine EqE.mk _ (wrap_in (by omega) (by omega)) ?_)
      | ((with_reducible refine EqE.idS ?_); (refine EqE.fP ?_; (conv => whnf); fail_if_success (show forceL _ _)))
      | refine Cd.mk (Nat.le_of_ble_eq_true rfl) ?_)
    refine ⟨_, ⟨i + 1, rfl, by omega, rfl, ?_⟩, by omega⟩
    have e : p ^ (i + 1) = dof (dman (p ^ i) * dman p) (dexp (p ^ i) + dexp p) := by rw [← dof_mul, dof_self, dof_self, Dyadic.pow_succ]
    rw [e]; rfl
  · have e : i = (min (max n 0) 64).toNat := by omega
    repeat' ((conv => whnf); first
      | with_reducible refine Br.dec (fun h => absurd h (by omega)) (fun _ => ?_)
      | refine RegE.early (Cd.mk (show regOk _ _ _ _ = true by kernel_rfl) ?_)
      | refine Cd.mk rfl ?_
      | (refine TkE.fL ?_; (conv => whnf); fail_if_success (show forceL _ _))
      | refine Res.mk ?_
      | ((with_reducible refine EqE.idS ?_); (refine EqE.fP ?_; (conv => whnf); fail_if_success (show forceL _ _)))
      | refine Cd.mk (Nat.le_of_ble_eq_true rfl) ?_)
    show dyD _ = dyD (p ^ i)
    rw [e]
theorem rdmul_sim2 {a b : Nat} {p q : Dyadic} (hp : Ht a p) (hq : Ht b q) (hab : a + b ≤ 50000) : Sim Tryz.prog G0 false 63 [dyD p, dyD q] (dyD (p * q)) := by
  have hz := hp.parts.1.mul hq.parts.1 (c := 100000) (by omega)
  have h1 := hp.parts.2
  have h2 := hq.parts.2
  have u4 : Ht 50000 (dof (dman p * dman q) (dexp p + dexp q)) := by
    rw [← dof_mul, dof_self, dof_self]; exact hp.mul hq hab
  refine sim_mk tab_ok Tryz.func63 rfl (by kernel_rfl) rfl ⟨Nat.le_of_ble_eq_true rfl, Nat.le_of_ble_eq_true rfl⟩ ?_
  repeat' ((conv => whnf); first
    | refine CallE.mk _ _ (rmulint_sim (.of (n := dman p) (hp.parts.1.mono (by omega))) (.of (n := dman q) (hq.parts.1.mono (by omega))) (hp.parts.1.mono (by omega)) (hq.parts.1.mono (by omega))) ?_
    | refine CallE.mk _ _ (rexact_sim (.of (hz.mono (by decide))) (hz.mono (by decide)) (tz_of_ht u4 (by omega)) (by omega) (by omega)) ?_
    | refine RegE.early (Cd.mk (show regOk _ _ _ _ = true by kernel_rfl) ?_)
    | refine Cd.mk rfl ?_
    | refine NthE.mk _ rfl ?_
    | (refine TkE.fL ?_; (conv => whnf); fail_if_success (show forceL _ _))
    | refine Res.mk ?_
    | ((with_reducible refine EqE.idW ?_); refine EqE.mk _ (wrap_in (by omega) (by omega)) ?_)
    | ((with_reducible refine EqE.idS ?_); (refine EqE.fP ?_; (conv => whnf); fail_if_success (show forceL _ _)))
    | refine Cd.mk (Nat.le_of_ble_eq_true rfl) ?_)
  show dyD _ = dyD (dof (dman p * dman q) (dexp p + dexp q))
  rw [← dof_mul, dof_self, dof_self]
theorem rdpow_simK {p : Dyadic} {H K : Nat} (n : Int) (hp : Ht H p) (hK : (min (max n 0) 64).toNat ≤ K) (hb : H * K + 1 + H ≤ 50000) : Sim Tryz.prog G0 false 83 [dyD p, .int .i64 n] (dyD (p ^ (min (max n 0) 64).toNat)) := by
  refine sim_mk tab_ok Tryz.func83 rfl (by kernel_rfl) rfl ⟨Nat.le_of_ble_eq_true rfl, Nat.le_of_ble_eq_true rfl⟩ ?_
  repeat' ((conv => whnf); first
    | with_reducible refine CallX.data ?_
    | refine CallE.mk _ _ (rofd_sim _ (by decide) (by decide)) ?_
    | refine RegE.early (Cd.mk (show regOk _ _ _ _ = true by kernel_rfl) ?_)
    | refine Cd.mk rfl ?_
    | ((with_reducible refine EqE.idS ?_); (refine EqE.fP ?_; (conv => whnf); fail_if_success (show forceL _ _)))
    | refine Cd.mk (Nat.le_of_ble_eq_true rfl) ?_)
  refine ⟨[], [1, 2, 4, 5, 6], [2, 4, 5], fun m ys h => ∃ (i : Nat), m = (min (max n 0) 64).toNat - i ∧ i ≤ (min (max n 0) 64).toNat ∧ ys = [.d (.int .i64 n), .ptr 2 0, .ptr 4 0, .ptr 5 0, .d (.int .i64 i)] ∧
    h = [(5, false, dyA (p ^ i)), (4, false, zeA), (2, false, dyA p)],
    ⟨_, _, _, ⟨.inl rfl, rfl, rfl, by first | rfl | (repeat first | exact all_nil _ | refine all_la _ _ _ _ _ ?_)⟩, 0, rfl, by omega, rfl, ?_⟩, ?_⟩
  · rw [Dyadic.pow_zero]; rfl
  rintro m ys h ⟨i, rfl, hi, rfl, rfl⟩
  by_cases hlt : i < (min (max n 0) 64).toNat
  · have hpi := (hp.pow i).mono (show H * i + 1 ≤ H * K + 1 from Nat.succ_le_succ (Nat.mul_le_mul_left H (by omega)))
    repeat' ((conv => whnf); first
      | with_reducible refine CallX.data ?_
      | with_reducible refine Br.dec (fun _ => ?_) (fun h => absurd (by omega) h)
      | refine CallE.mk _ _ (rdmul_sim2 hpi hp (by omega)) ?_
      | refine RegE.early (Cd.mk (show regOk _ _ _ _ = true by kernel_rfl) ?_)
      | refine Cd.mk rfl ?_
      | (refine TkE.fL ?_; (conv => whnf); fail_if_success (show forceL _ _))
      | refine LoopEnd.go _ _ ⟨.inl rfl, rfl, rfl, by first | rfl | (repeat first | exact all_nil _ | refine all_la _ _ _ _ _ ?_)⟩ ?_
      | ((with_reducible refine EqE.idW ?_); with_reducible refine EqE.mk _ (n_succ _ (by omega)) ?_)
      | ((with_reducible refine EqE.idI ?_); refine EqE.mk _ (min_eq _ _) ?_)
      | ((with_reducible refine EqE.idS ?_); (refine EqE.fP ?_; (conv => whnf); fail_if_success (show forceL _ _)))
      | refine Cd.mk (Nat.le_of_ble_eq_true rfl) ?_)
    refine ⟨_, ⟨i + 1, rfl, by omega, rfl, ?_⟩, by omega⟩
    rw [Dyadic.pow_succ]; rfl
  · have e : i = (min (max n 0) 64).toNat := by omega
    repeat' ((conv => whnf); first
      | with_reducible refine Br.dec (fun h => absurd h (by omega)) (fun _ => ?_)
      | refine RegE.early (Cd.mk (show regOk _ _ _ _ = true by kernel_rfl) ?_)
      | refine Cd.mk rfl ?_
      | (refine TkE.fL ?_; (conv => whnf); fail_if_success (show forceL _ _))
      | refine Res.mk ?_
      | ((with_reducible refine EqE.idI ?_); refine EqE.mk _ (min_eq _ _) ?_)
      | ((with_reducible refine EqE.idS ?_); (refine EqE.fP ?_; (conv => whnf); fail_if_success (show forceL _ _)))
      | refine Cd.mk (Nat.le_of_ble_eq_true rfl) ?_)
    show dyD _ = dyD (p ^ i)
    rw [e]
theorem rdpow_sim {p : Dyadic} (n : Int) (hp : Ht 700 p) : Sim Tryz.prog G0 false 83 [dyD p, .int .i64 n] (dyD (p ^ (min (max n 0) 64).toNat)) := rdpow_simK (K := 64) n hp (by omega) (by decide)
theorem zt_small (n : Int) (k : Nat) (h : n.natAbs ≤ 1000) (hk : 64 ≤ k) : Zt k n := .small (by omega) hk
theorem isDy_dyD (q : Dyadic) (h1 : -20000 ≤ dexp q) (h2 : dexp q ≤ 20000) : isDy (zneg (dman q)) (ofN (dman q).natAbs) (dexp q) = true := by
  unfold isDy
  have h3 := ofN_len_zero (n := (dman q).natAbs)
  rw [cutOk_ofN, decide_eq_true h1, decide_eq_true h2]
  by_cases h : q = 0
  · subst h; rw [dman_zero, dexp_zero, show Int.natAbs 0 = 0 from rfl, ofN_zero]; rfl
  · have h4 : dman q ≠ 0 := fun e => h (dman_eq_zero.1 e)
    have h5 := dman_odd h
    rw [if_neg (by omega), decide_eq_true (show 0 < (ofN (dman q).natAbs).length by omega), nv_getD, nv_ofN, Pw_zero, Nat.div_one, decide_eq_true (by omega)]; rfl
theorem dis_at {q : Dyadic} (hq : Ht 20000 q) : Sim Tryz.prog G0 true 158 [dyD q] (.bool true) := by
  obtain ⟨h1, h2, h3⟩ := hq.parts
  have h := dis_sim (zneg (dman q)) (ofN (dman q).natAbs) (dexp q) (Nat.lt_of_le_of_lt (h1.len (k := 65536) (by decide)) (by decide))
  rw [isDy_dyD q (by omega) (by omega)] at h
  exact h
theorem dsame_at {x y : D} {p q : Dyadic} (hx : DyR x p) (hy : DyR y q) (hpq : Ht 1048576 (p - q)) (h : p = q) : Sim Tryz.prog G0 true 194 [x, y] (.bool true) := by
  have h2 := dsame_sim hx hy hpq
  rwa [decide_eq_true h] at h2
theorem dcmp_at {x y : D} {p q : Dyadic} {s : Int} (hx : DyR x p) (hy : DyR y q) (hpq : Ht 1048576 (p - q)) (h : dsg (p - q) = s) : Sim Tryz.prog G0 true 146 [x, y] (.int .i64 s) := h ▸ dcmp_sim hx hy hpq
theorem dsign_at' {x : D} {q : Dyadic} {s : Int} (hx : DyR x q) (h : dsg q = s) : Sim Tryz.prog G0 true 182 [x] (.int .i64 s) := h ▸ dsign_sim hx
theorem dtop_at {x : D} {q : Dyadic} {s : Int} (hx : DyR x q) (h : dtop q = s) : Sim Tryz.prog G0 true 212 [x] (.int .i64 s) := h ▸ dtop_sim hx
theorem dmake_at {x : D} {m e : Int} {q : Dyadic} (hx : ZR x m) (hm : Zt 134217728 m) (h : dof m (min (max e (-20000)) 20000) = q) : Sim Tryz.prog G0 false 172 [x, .int .i64 e] (dyD q) := h ▸ dmake_sim e hx hm
theorem dscale_at {x : D} {p q : Dyadic} {n : Int} (hx : DyR x p) (h : p * dof 1 (min (max n (-20000)) 20000) = q) : Sim Tryz.prog G0 false 126 [x, .int .i64 n] (dyD q) := h ▸ dscale_sim n hx
theorem dadd_at {x y : D} {p q r : Dyadic} (hx : DyR x p) (hy : DyR y q) (h : p + q = r) : Sim Tryz.prog G0 false 137 [x, y] (dyD r) := h ▸ dadd_sim hx hy
theorem dmul_at {x y : D} {p q r : Dyadic} (hx : DyR x p) (hy : DyR y q) (h : p * q = r) : Sim Tryz.prog G0 false 145 [x, y] (dyD r) := h ▸ dmul_sim hx hy
theorem dpow_at {x : D} {p q : Dyadic} {n : Int} (hx : DyR x p) (hp : Ht 16000 p) (h : p ^ (min (max n 0) 64).toNat = q) : Sim Tryz.prog G0 false 229 [x, .int .i64 n] (dyD q) := h ▸ dpow_sim n hx hp
theorem cz {n : Int} (h : decide (n.natAbs ≤ 1000) = true) : ZR (zD n) n ∧ Zt 134217728 n := ⟨.of (zt_small n _ (of_decide_eq_true h) (by decide)), zt_small n _ (of_decide_eq_true h) (by decide)⟩
theorem rsame_at {m n : Int} (hm : Zt 134217728 m) (hn : Zt 134217728 n) (h : m = n) : Sim Tryz.prog G0 true 156 [zD m, zD n] (.bool true) := by
  have h2 := rsameint_sim hm hn
  rwa [decide_eq_true h] at h2
theorem dis_k1 : Sim Tryz.prog G0 true 158 [.agg [.bool false, sl [], .int .i64 1]] (.bool false) := dis_sim false [] 1 (by decide)
abbrev k4x : Dyadic := dof 3 2
abbrev k4y : Dyadic := dof (-1) (-2)
theorem rmake_at {x : D} {m e : Int} {q : Dyadic} (hx : ZR x m) (hm : Zt 100000 m) (h : dof m (min (max e (-20000)) 20000) = q) : Sim Tryz.prog G0 false 19 [x, .int .i64 e] (dyD q) := h ▸ rmake_sim e hx hm
theorem requal_at {p : Dyadic} (hp : Ht 50000 p) : Sim Tryz.prog G0 true 100 [dyD p, dyD p] (.bool true) := by
  have h := requal_sim hp hp
  rwa [decide_eq_true rfl] at h
theorem clamp_id {e : Int} (h1 : -20000 ≤ e) (h2 : e ≤ 20000) : min (max e (-20000)) 20000 = e := by omega
/-- What is known of a number of few limbs. -/
theorem few_dy {b : Bool} {l : List UInt32} {e : Int} (h : fewD 20 2000 l e = true) : DyR (.agg [.bool b, sl l, .int .i64 e]) (dof (zv b l) e) ∧ Ht 2640 (dof (zv b l) e) ∧ ZR (.agg [.bool b, sl l]) (zv b l) ∧ Zt 640 (zv b l) ∧ dof (zv b l) (min (max e (-20000)) 20000) = dof (zv b l) e ∧ l.length < 4294967296 := by
  obtain ⟨h1, h2, h3⟩ := fewD_iff.1 h
  exact ⟨dyR_few (n := 20) (b := 2000) (by decide) (by decide) ⟨h1, h2, h3⟩, ht_few (n := 20) (b := 2000) ⟨h1, h2, h3⟩, .mk _ _ (by omega), .of_len h1 (by decide), by rw [clamp_id (by omega) (by omega)], by omega⟩
end Go.Ev.Ar

namespace Go.Ev.Ar
open Go Go.Ev Go.Proofs

theorem roHeld_sim (e : Int) : Sim Tryz.prog G0 true 213 [.int .i64 e] (.int .i64 (min (max e 1) 4000)) := by
  refine sim_mk tab_ok Tryz.func213 rfl (by kernel_rfl) rfl ⟨Nat.le_of_ble_eq_true rfl, Nat.le_of_ble_eq_true rfl⟩ ?_
  repeat' ((conv => whnf); first
    | refine RegE.early (Cd.mk (show regOk _ _ _ _ = true by kernel_rfl) ?_)
    | refine Res.mk ?_
    | ((with_reducible refine EqE.idI ?_); first | refine EqE.mk _ (max_eq _ _) ?_ | refine EqE.mk _ (min_eq _ _) ?_))
  rfl
theorem zv_odd (b : Bool) (l : List UInt32) : zv b l % 2 = 1 ↔ (l.getD 0 0).toNat % 2 = 1 := by
  have h := nv_getD l 0
  rw [Pw_zero, Nat.div_one] at h
  unfold zv; split <;> omega
theorem roup_sim {x y : D} {f r : Int} (s : Nat) (mode : Int) (hx : ZR x f) (hy : ZR y r) (hf : Zt 4200000 f) (hr : Zt 4200000 r) (hs : s ≤ 4200000) : Sim Tryz.prog G0 true 211 [x, y, .int .i64 s, .int .i64 mode] (.bool (upB f r s mode)) := by
  have z1 : Zt 4200001 (r * 2 ^ Int.toNat 1) := hr.shl (by decide)
  have z2 : Zt 4200100 (1 * 2 ^ (s : Int).toNat) := (Zt.small (n := 1) (h := 64) (by decide) (by decide)).shl (by omega)
  have z3 := z1.sub z2 (c := 4200101) (by decide)
  have o1 : ZR (zD 1) 1 := (cz (by decide)).1
  obtain ⟨b, l, hl⟩ := hx
  obtain ⟨c, k, hk⟩ := hy
  refine sim_mk tab_ok Tryz.func211 rfl (by kernel_rfl) rfl ⟨Nat.le_of_ble_eq_true rfl, Nat.le_of_ble_eq_true rfl⟩ ?_
  by_cases m0 : mode = 0
  · repeat' ((conv => whnf); first
      | with_reducible refine Br.dec (fun _ => ?_) (fun h => absurd (by omega) h)
      | refine RegE.early (Cd.mk (show regOk _ _ _ _ = true by kernel_rfl) ?_)
      | refine Cd.mk rfl ?_
      | refine Res.mk ?_)
    unfold upB; rw [if_pos m0]; rfl
  by_cases m1 : mode = 1
  · repeat' ((conv => whnf); first
      | with_reducible refine CallX.data ?_
      | with_reducible refine Br.dec (fun h => absurd h (by omega)) (fun _ => ?_)
      | with_reducible refine Br.dec (fun _ => ?_) (fun h => absurd (by omega) h)
      | refine CallE.mk _ _ (zsign_sim (.mk c k hk)) ?_
      | refine RegE.early (Cd.mk (show regOk _ _ _ _ = true by kernel_rfl) ?_)
      | refine Cd.mk rfl ?_
      | (refine TkE.fL ?_; (conv => whnf); fail_if_success (show forceL _ _))
      | refine Res.mk ?_)
    unfold upB; rw [if_neg m0, if_pos m1]; rfl
  unfold upB
  rw [if_neg m0, if_neg m1]
  have hX : zv c k * 2 - 2 ^ s = zv c k * 2 ^ Int.toNat 1 - 1 * 2 ^ (s : Int).toNat := by
    rw [Int.toNat_natCast, Int.one_mul]; rfl
  have hx0 := u32_lt (l.getD (Int.toNat 0) 0)
  have hodd := zv_odd b l
  rw [hX]
  repeat' ((conv => whnf); first
    | with_reducible refine CallX.data ?_
    | with_reducible refine Br.dec (fun h => absurd h (by omega)) (fun _ => ?_)
    | refine CallE.mk _ _ (zup_sim 1 (.mk c k hk) (by decide)) ?_
    | refine CallE.mk _ _ (zof_sim 1 (by decide) (by decide)) ?_
    | refine CallE.mk _ _ (zup_sim _ o1 (by omega)) ?_
    | refine CallE.mk _ _ (zcmp_sim (.of (z1.mono (by decide))) (.of (z2.mono (by decide))) (z3.mono (by decide))) ?_
    | refine RegE.early (Cd.mk (show regOk _ _ _ _ = true by kernel_rfl) ?_)
    | refine Cd.mk rfl ?_
    | refine Br.t ?_
    | refine Br.f ?_
    | with_reducible refine Br.dec (fun _ => ?_) (fun _ => ?_)
    | refine NthE.mk _ (limbs_drop _ _ (by omega)) ?_
    | refine NthE.mk _ rfl ?_
    | (refine TkE.fL ?_; (conv => whnf); fail_if_success (show forceL _ _))
    | refine Res.mk ?_
    | ((with_reducible refine EqE.idW ?_); with_reducible refine EqE.mk _ (n_and1_32 _ (by omega)) ?_)
    | refine Cd.mk (by first | omega | (dsimp only; omega) | (simp only [length_limbs, length_la, Nat.mul_one, List.length_set, List.length_take, List.length_drop, List.length_replicate, List.length_append, Int.toNat_natCast]; omega) | (rw [length_la, Nat.mul_one]) | (rw [length_limbs, Nat.mul_one]) | (refine ⟨⟨Int.le_refl _, ?_⟩, ?_⟩ <;> first | omega | (rw [Int.toNat_zero]; omega)) | (simp only [length_limbs, length_la, Nat.mul_one, List.length_set, List.length_take, List.length_drop, List.length_replicate]; exact Nat.le_refl _)) ?_)
  all_goals show D.bool _ = D.bool _
  · rename_i h1 h2
    rw [decide_eq_true h2]; rfl
  · rename_i h1 h2 h3
    rw [decide_eq_false h2, decide_eq_true h3, Bool.false_or, Bool.true_and]
    exact congrArg D.bool (decide_eq_decide.2 (by rw [hodd]; show (l.getD 0 0).toNat % 2 = 1 ↔ (((l.getD 0 0).toNat % 2 : Nat) : Int) = 1; omega))
  · rename_i h1 h2 h3
    rw [decide_eq_false h2, decide_eq_false h3]; rfl
  · rename_i h1 h2
    rw [decide_eq_true h2]; rfl
  all_goals
    rename_i h1 h2 h3
    have hl0 : ¬ (l.getD 0 0).toNat % 2 = 1 := by rw [getD_big (by omega)]; decide
    rw [decide_eq_false h2, decide_eq_false (fun h => hl0 (hodd.1 h)), Bool.and_false]; rfl
theorem ro_floor {q : Dyadic} {a : Nat} {s : Nat} (hq : Zt a (dman q)) (hs : s ≤ 3100000) (ha : a ≤ 1000000) : Zt a (dman q / 2 ^ s) ∧ Zt 4200000 (dman q / 2 ^ s * 2 ^ s) ∧ Zt 4200000 (dman q - dman q / 2 ^ s * 2 ^ s) := by
  have h1 := zt_floor hq s
  have h2 := h1.shl (k := s) (Nat.le_refl _)
  have h3 := floor_rest (dman q) s
  refine ⟨h1, h2.mono (by omega), ?_⟩
  refine Zt.mono (a := s) ?_ (by omega)
  rw [Zt.iff]
  have h4 : ((dman q - dman q / 2 ^ s * 2 ^ s).natAbs : Int) < ((2 ^ s : Nat) : Int) := by rw [Int.natCast_pow]; show _ < (2 : Int) ^ s; omega
  exact_mod_cast h4
theorem rogrid_sim {x : D} {q : Dyadic} (e mode : Int) (hx : DyR x q) (hq : Ht 500000 q) (h1 : -1000000 ≤ e) (h2 : e ≤ 1000000) : Sim Tryz.prog G0 false 183 [x, .int .i64 e, .int .i64 mode] (dyD (grd q e mode)) := by
  have kx := hx
  obtain ⟨hp1, hp2, hp3⟩ := hq.parts
  obtain ⟨b, l, f, hl, g1, g2, _⟩ := hx
  generalize dof (zv b l) f = q at *
  refine sim_mk tab_ok Tryz.func183 rfl (by kernel_rfl) rfl ⟨Nat.le_of_ble_eq_true rfl, Nat.le_of_ble_eq_true rfl⟩ ?_
  by_cases h : e ≤ dexp q
  · rw [grd_ge h]
    repeat' ((conv => whnf); first
      | with_reducible refine CallX.data ?_
      | with_reducible refine Br.dec (fun _ => ?_) (fun h => absurd (by omega) h)
      | refine CallE.mk _ _ (dnorm_sim kx) ?_
      | refine RegE.early (Cd.mk (show regOk _ _ _ _ = true by kernel_rfl) ?_)
      | refine Cd.mk rfl ?_
      | refine NthE.mk _ rfl ?_
      | (refine TkE.fL ?_; (conv => whnf); fail_if_success (show forceL _ _))
      | refine Res.mk ?_
      | ((with_reducible refine EqE.idS ?_); (refine EqE.fP ?_; (conv => whnf); fail_if_success (show forceL _ _)))
      | refine Cd.mk (Nat.le_of_ble_eq_true rfl) ?_)
    rfl
  unfold grd
  rw [if_neg h]
  have hs : e - dexp q = (((e - dexp q).toNat : Nat) : Int) := by omega
  have hs2 : (e - dexp q).toNat ≤ 3100000 := by omega
  obtain ⟨z1, z2, z3⟩ := ro_floor hp1 hs2 (by decide)
  generalize hS : (e - dexp q).toNat = S at *
  have z0 := hp1.mono (show 2 * 500000 ≤ 134217728 by decide)
  have z4 : Zt 1000001 (dman q / 2 ^ S + 1) := z1.add (Zt.small (n := 1) (h := 64) (by decide) (by decide)) (by decide)
  repeat' ((conv => whnf); first
    | with_reducible refine CallX.data ?_
    | with_reducible refine Br.dec (fun h => absurd h (by omega)) (fun _ => ?_)
    | refine CallE.mk _ _ (dnorm_sim kx) ?_
    | refine CallE.mk _ _ (zdown_sim _ (.of (n := dman q) z0) (by omega)) ?_
    | refine CallE.mk _ _ (zup_sim _ (.of (z1.mono (by decide))) (by omega)) ?_
    | refine CallE.mk _ _ (zsub_sim (.of (n := dman q) z0) (.of (z2.mono (by decide)))) ?_
    | refine CallE.mk _ _ (roup_sim S _ (.of (z1.mono (by decide))) (.of (z3.mono (by decide))) (z1.mono (by decide)) z3 (by omega)) ?_
    | refine CallE.mk _ _ (zof_sim 1 (by decide) (by decide)) ?_
    | refine CallE.mk _ _ (zadd_sim (.of (z1.mono (by decide))) (cz (n := 1) (by decide)).1) ?_
    | refine CallE.mk _ _ (draw_sim (.of (z4.mono (by decide))) (z4.mono (by decide)) (by omega) (by omega)) ?_
    | refine CallE.mk _ _ (draw_sim (.of (z1.mono (by decide))) (z1.mono (by decide)) (by omega) (by omega)) ?_
    | refine RegE.early (Cd.mk (show regOk _ _ _ _ = true by kernel_rfl) ?_)
    | refine Cd.mk rfl ?_
    | refine Br.mk (fun _ => ?_) (fun _ => ?_)
    | refine NthE.mk _ rfl ?_
    | (refine TkE.fL ?_; (conv => whnf); fail_if_success (show forceL _ _))
    | refine Res.mk ?_
    | ((with_reducible refine EqE.idW ?_); refine EqE.mk ((S : Nat) : Int) (by rw [wrap_in (by omega) (by omega)]; exact hs) ?_)
    | ((with_reducible refine EqE.idS ?_); (refine EqE.fP ?_; (conv => whnf); fail_if_success (show forceL _ _)))
    | refine Cd.mk (Nat.le_of_ble_eq_true rfl) ?_)
  · rename_i h3
    show dyD (dof (if upB (dman q / 2 ^ S) (dman q - dman q / 2 ^ S * 2 ^ S) S mode = true then dman q / 2 ^ S + 1 else dman q / 2 ^ S) e) = dyD (dof (dman q / 2 ^ S + 1) e)
    rw [Int.toNat_natCast] at h3
    rw [if_pos h3]
  · rename_i h3
    rw [Int.toNat_natCast] at h3
    show dyD (dof (if upB (dman q / 2 ^ S) (dman q - dman q / 2 ^ S * 2 ^ S) S mode = true then dman q / 2 ^ S + 1 else dman q / 2 ^ S) e) = dyD (dof (dman q / 2 ^ S) e)
    rw [if_neg (by rw [h3]; decide)]
/-- The exponent of the multiples of p bits. -/
def unitE (q : Dyadic) (p : Int) : Int := dtop q - min (max p 1) 4000 + 1
theorem rounit_sim {x : D} {q : Dyadic} (p : Int) (hx : DyR x q) (hq : Ht 100000 q) : Sim Tryz.prog G0 true 184 [x, .int .i64 p] (.int .i64 (unitE q p)) := by
  have kx := hx
  have ht := dtop_bounds hq
  obtain ⟨b, l, f, hl, g1, g2, _⟩ := hx
  refine sim_mk tab_ok Tryz.func184 rfl (by kernel_rfl) rfl ⟨Nat.le_of_ble_eq_true rfl, Nat.le_of_ble_eq_true rfl⟩ ?_
  repeat' ((conv => whnf); first
    | with_reducible refine CallX.data ?_
    | refine CallE.mk _ _ (dtop_sim kx) ?_
    | refine CallE.mk _ _ (roHeld_sim _) ?_
    | refine RegE.early (Cd.mk (show regOk _ _ _ _ = true by kernel_rfl) ?_)
    | refine Cd.mk rfl ?_
    | (refine TkE.fL ?_; (conv => whnf); fail_if_success (show forceL _ _))
    | refine Res.mk ?_
    | ((with_reducible refine EqE.idW ?_); refine EqE.mk _ (wrap_in (by omega) (by omega)) ?_))
  rfl
/-- Rounded to p bits. -/
def rto (q : Dyadic) (p mode : Int) : Dyadic := if q = 0 then 0 else grd q (unitE q p) mode
theorem roTo_sim {x : D} {q : Dyadic} (p mode : Int) (hx : DyR x q) (hq : Ht 100000 q) : Sim Tryz.prog G0 false 136 [x, .int .i64 p, .int .i64 mode] (dyD (rto q p mode)) := by
  have kx := hx
  have ht := dtop_bounds hq
  have hu : -104000 ≤ unitE q p ∧ unitE q p ≤ 300001 := by unfold unitE; omega
  obtain ⟨b, l, f, hl, g1, g2, _⟩ := hx
  refine sim_mk tab_ok Tryz.func136 rfl (by kernel_rfl) rfl ⟨Nat.le_of_ble_eq_true rfl, Nat.le_of_ble_eq_true rfl⟩ ?_
  repeat' ((conv => whnf); first
    | with_reducible refine CallX.data ?_
    | refine CallE.mk _ _ (dsign_sim kx) ?_
    | refine CallE.mk _ _ (rounit_sim _ kx hq) ?_
    | refine CallE.mk _ _ (rogrid_sim _ _ kx (hq.mono (by decide)) (by omega) (by omega)) ?_
    | refine RegE.early (Cd.mk (show regOk _ _ _ _ = true by kernel_rfl) ?_)
    | refine Cd.mk rfl ?_
    | with_reducible refine Br.dec (fun _ => ?_) (fun _ => ?_)
    | (refine TkE.fL ?_; (conv => whnf); fail_if_success (show forceL _ _))
    | refine Res.mk ?_
    | ((with_reducible refine EqE.idS ?_); (refine EqE.fP ?_; (conv => whnf); fail_if_success (show forceL _ _)))
    | refine Cd.mk (Nat.le_of_ble_eq_true rfl) ?_)
  · rename_i h
    show dyD _ = D.agg [.bool false, sl [], .int .i64 0]
    rw [dyD_zero]; unfold rto; rw [if_pos (dsg_eq.1 h)]
  · rename_i h
    show dyD _ = dyD (grd _ _ _)
    unfold rto; rw [if_neg (fun e => h (dsg_eq.2 e))]
/-- How far multiples of p bits are from one another. -/
def ulpD (q : Dyadic) (p : Int) : Dyadic := if q = 0 then 0 else dof 1 (unitE q p)
/- THE REFERENCE -/
theorem zdiv_parts (m : Int) (K : Nat) (hK : 0 < K) : m / (K : Int) = if zneg m = true ∧ m.natAbs % K ≠ 0 then -((m.natAbs / K + 1 : Nat) : Int) else if zneg m = true then -((m.natAbs / K : Nat) : Int) else ((m.natAbs / K : Nat) : Int) := by
  have h1 := Nat.div_add_mod m.natAbs K
  have h2 := Nat.mod_lt m.natAbs hK
  by_cases h : m < 0
  · have hz : zneg m = true := decide_eq_true h
    have h3 : m = -((m.natAbs : Nat) : Int) := by omega
    rw [hz]
    generalize hq : m.natAbs / K = q at *
    generalize hr : m.natAbs % K = r at *
    have h4 : (m.natAbs : Int) = K * q + r := by rw [← h1]; simp
    by_cases h5 : r = 0
    · rw [if_neg (by simp [h5]), if_pos rfl]
      have h6 : m = (K : Int) * (-(q : Int)) := by rw [h3, h4, h5]; grind
      rw [h6, Int.mul_ediv_cancel_left _ (by omega)]
    · rw [if_pos ⟨rfl, h5⟩]
      have h6 : m = (K : Int) * (-((q + 1 : Nat) : Int)) + ((K : Int) - r) := by rw [h3, h4]; grind
      rw [h6, Int.mul_add_ediv_left _ _ (by omega), Int.ediv_eq_zero_of_lt (by omega) (by omega)]; omega
  · have hz : zneg m = false := decide_eq_false h
    rw [hz, if_neg (by simp), if_neg (by simp)]
    have h3 : m = ((m.natAbs : Nat) : Int) := by omega
    rw [h3]; rfl
theorem len_lt_of {x j k : Nat} (h : x < 2 ^ j) (hj : j ≤ 32 * k) : (ofN x).length ≤ k := len_lt (Nat.lt_of_lt_of_le h (Nat.pow_le_pow_right (by decide) hj))
end Go.Ev.Ar
