/- Contracts of the given functions, on data. Conditions stand in each theorem. -/
import Derived.Test.YtagjickjfjgfpaaGreatDoorGAvEu
import Derived.Test.YtagjickjfjgfpaaGreatDoorGAvRReal
import Derived.Test.YtagjickjfjgfpaaGreatDoorAvRRect
import Derived.Test.YtagjickjfjgfpaaGreatDoorGEvU
set_option linter.unusedSimpArgs false
set_option linter.unusedVariables false
namespace Go.Ev.Ar
open Go Go.Ev Go.Proofs

theorem few_cx23 {r : RC} (h : r.few 10 1000 = true) : CxR (.agg r.cells) r.val ∧ CxF (.agg r.cells) r.val ∧ Hc 1320 r.val := ⟨RC.cxR 1000 (by decide) (by decide) (by decide) h, cxF_few 1000 (by decide) (by decide) (by decide) h, RC.hc 1000 1320 (by decide) (by decide) h⟩
theorem dyS_few {b : Bool} {l : List UInt32} {e : Int} (h : fewD 10 1000 l e = true) : DyS (.agg [.bool b, sl l, .int .i64 e]) (dof (zv b l) e) := by
  obtain ⟨h1, h2, h3⟩ := fewD_iff.1 h
  exact .mk (by omega) (by omega) (by omega) (dyR_few (n := 10) (b := 1000) (by decide) (by decide) ⟨h1, h2, h3⟩)
theorem cxS_few {r : RC} (h : r.few 10 1000 = true) : CxS (.agg r.cells) r.val := by
  unfold RC.few at h
  rw [Bool.and_eq_true] at h
  exact .mk (dyS_few h.1) (dyS_few h.2)
/-- Few limbs, a moderate power. -/
def f23 (l : List UInt32) (e : Int) : Bool := decide (l.length ≤ 3) && (decide (-100 ≤ e) && decide (e ≤ 10))
theorem f23_iff {l : List UInt32} {e : Int} : f23 l e = true ↔ l.length ≤ 3 ∧ -100 ≤ e ∧ e ≤ 10 := by
  simp only [f23, Bool.and_eq_true, decide_eq_true_eq]
theorem f23_false {l : List UInt32} {e : Int} (h : ¬ (l.length ≤ 3 ∧ -100 ≤ e ∧ e ≤ 10)) : f23 l e = false := by
  rw [← Bool.not_eq_true, f23_iff]; exact h
theorem few23_sim (b : Bool) (l : List UInt32) (e : Int) : Sim Tryz.prog G0 true 78 [.agg [.bool b, sl l, .int .i64 e]] (.bool (f23 l e)) := by
  refine sim_mk tab_ok Tryz.func78 rfl (by kernel_rfl) rfl ⟨Nat.le_of_ble_eq_true rfl, Nat.le_of_ble_eq_true rfl⟩ ?_
  repeat' ((conv => whnf); first
    | refine RegE.early (Cd.mk (show regOk _ _ _ _ = true by kernel_rfl) ?_)
    | refine Cd.mk rfl ?_
    | refine Br.t ?_
    | refine Br.f ?_
    | with_reducible refine Br.dec (fun _ => ?_) (fun _ => ?_)
    | refine NthE.mk _ rfl ?_
    | refine Res.mk ?_)
  · rename_i h1 h2
    show D.bool _ = D.bool _
    congr 1
    unfold f23
    rw [decide_eq_true (show l.length ≤ 3 by omega), decide_eq_true (show -100 ≤ e by omega)]; rfl
  · rename_i h1 h2
    show D.bool _ = D.bool _
    rw [f23_false (by omega)]
  · rename_i h1
    show D.bool _ = D.bool _
    rw [f23_false (by omega)]
def RC.f23 (r : RC) : Bool := Ar.f23 r.l r.e && Ar.f23 r.k r.f
theorem RC.f23_few {r : RC} (h : RC.f23 r = true) : r.few 10 1000 = true := by
  unfold RC.f23 at h
  rw [Bool.and_eq_true, f23_iff, f23_iff] at h
  rw [RC.few_iff]; omega
theorem fewreal23_sim (r : RC) : Sim Tryz.prog G0 true 24 [.agg r.cells] (.bool (RC.f23 r)) := by
  obtain ⟨b, l, e, c, k, f⟩ := r
  refine sim_mk tab_ok Tryz.func24 rfl (by kernel_rfl) rfl ⟨Nat.le_of_ble_eq_true rfl, Nat.le_of_ble_eq_true rfl⟩ ?_
  repeat' ((conv => whnf); first
    | with_reducible refine CallX.data ?_
    | refine CallE.mk _ _ (few23_sim _ _ _) ?_
    | refine RegE.early (Cd.mk (show regOk _ _ _ _ = true by kernel_rfl) ?_)
    | refine Cd.mk rfl ?_
    | refine Br.t ?_
    | refine Br.f ?_
    | refine Br.mk (fun _ => ?_) (fun _ => ?_)
    | (refine TkE.fL ?_; (conv => whnf); fail_if_success (show forceL _ _))
    | refine Res.mk ?_)
  all_goals
    rename_i h
    show D.bool (_ && _) = D.bool _
    rw [h]; rfl
theorem of23_is (n : Int) (h : n.natAbs ≤ 1000 := by decide) : Sim Tryz.prog G0 false 40 [.int .i64 n] (cxD (dof n 0, dof n 0)) := by
  refine sim_mk tab_ok Tryz.func40 rfl (by kernel_rfl) rfl ⟨Nat.le_of_ble_eq_true rfl, Nat.le_of_ble_eq_true rfl⟩ ?_
  repeat' ((conv => whnf); first
    | with_reducible refine CallX.data ?_
    | refine CallE.mk _ _ (rofd_sim n (by omega) (by omega)) ?_
    | refine RegE.early (Cd.mk (show regOk _ _ _ _ = true by kernel_rfl) ?_)
    | refine Cd.mk rfl ?_
    | (refine TkE.fL ?_; (conv => whnf); fail_if_success (show forceL _ _))
    | refine Res.mk ?_
    | ((with_reducible refine EqE.idS ?_); (refine EqE.fP ?_; (conv => whnf); fail_if_success (show forceL _ _)))
    | refine Cd.mk (Nat.le_of_ble_eq_true rfl) ?_)
  rfl
theorem zero_small : smallP 0 = true := by decide
theorem zero_may : mayP (0, 0) = true := by decide
theorem rof_zero : rof (0, 0) = (0, 0) := by decide
theorem zero_scl : ((0 : Dyadic) * dof 1 (-16)).toRat = 0 := by rw [q_mul, q_zero]; grind
/-- The exponent of 0 is 1. -/
theorem expV_zero (p : Int) : ihas (expV (0, 0) p) 1 := by
  have h := expV_has (z := (0, 0)) (q := 0) (p := p) ⟨q_le.1 Rat.le_refl, q_le.1 Rat.le_refl⟩ zero_small zero_small zero_small _ (Nat.le_refl _)
  rw [zero_scl, gr_zero, ← q_one] at h
  exact ⟨q_le.1 h.1, q_le.1 h.2⟩
theorem iy_zero : iy 0 = 0 := rfl
/-- The cosine of 0 is 1, its sine 0. -/
theorem bothV_zero (p : Int) : ihas (bothV (0, 0) p).1 1 ∧ ihas (bothV (0, 0) p).2 0 := by
  obtain ⟨a, b⟩ := bothV_has (z := (0, 0)) (q := 0) p ⟨q_le.1 Rat.le_refl, q_le.1 Rat.le_refl⟩ zero_small zero_small zero_small
  simp only [zero_scl, iy_zero, gx_zero] at a b
  refine ⟨Mm.const (d := 1) ?_, Mm.const (d := 0) ?_⟩
  · have : (fun n : Nat => (1 : Dyadic).toRat) = fun n => (1 : Cr).re := by funext n; rw [q_one]; rfl
    rw [this]; exact a
  · have : (fun n : Nat => (0 : Dyadic).toRat) = fun n => (1 : Cr).im := by funext n; rw [q_zero]; rfl
    rw [this]; exact b
theorem cxS_at {z : Cq} (h : Hc 10000 z) : CxS (cxD z) z := CxS.of h
theorem dz0 : dof 0 0 = 0 := by decide
theorem pt_zero : Sim Tryz.prog G0 false 34 [.agg [.bool false, sl [], .int .i64 0, .bool false, sl [], .int .i64 0]] (rqD ((0, 0), (0, 0))) := by
  have h := rPoint_is (0, 0); rwa [← cxD_zero] at h
theorem h65 : Hc 200 (dof 65 0, dof 65 0) := by
  have h : Ht 200 (dof 65 0) := (Ht.cst (m := 65) (e := 0) (by decide)).mono (by decide)
  exact ⟨h, h⟩
theorem no65 : mayP (dof 65 0, dof 65 0) = false := by decide
set_option maxRecDepth 10000 in
set_option maxHeartbeats 4000000 in
theorem known23_sim : Sim Tryz.prog G0 true 12 [] (.bool true) := by
  have z : Hc 0 ((0, 0) : Cq) := ⟨.zero _, .zero _⟩
  have cz := CxS.of (z.mono (show 0 ≤ 10000 by decide))
  have o0 := of23_is 0
  rw [dz0] at o0
  have o65 := of23_is 65
  have sE := eExp_ok (p := 30) cz (z.mono (by decide)) zero_may rfl
  have sS := eSin_ok (p := 30) cz (z.mono (by decide)) zero_may rfl
  have sC := eCos_ok (p := 30) cz (z.mono (by decide)) zero_may rfl
  have sN := eExp_no 30 (CxS.of (h65.mono (by decide))) (h65.mono (by decide)) no65
  have sR := eCExp_ok (z := ((0, 0), (0, 0))) (p := 30) zero_may zero_may rfl
  have hE := expV_zero 30
  obtain ⟨hB1, hB2⟩ := bothV_zero 30
  have eh := expV_hc 30 zero_may
  have bh := bothV_hc 30 (show Ord ((0, 0) : Cq) by unfold Ord; exact q_le.1 Rat.le_refl) zero_may
  have ep := expV_pos (z := (0, 0)) 30 zero_small
  unfold cexpV at sR
  dsimp only at sR
  rw [rof_zero] at sE sS sC sR
  have m1 := ihas_mul hE hB1
  have m2 := ihas_mul hE hB2
  rw [show (1 : Dyadic) * 1 = 1 by decide] at m1
  rw [show (1 : Dyadic) * 0 = 0 by decide] at m2
  have rh : Hr 24000 (imul (expV (0, 0) 30) (bothV (0, 0) 30).1, imul (expV (0, 0) 30) (bothV (0, 0) 30).2) := ⟨eh.imul bh.1 (by decide), eh.imul bh.2 (by decide)⟩
  have one : Hc 10 ((1, 0) : Cq) := ⟨Ht.one.mono (by decide), .zero _⟩
  have g1 := rHas_is (t := true) (d := 1) (eh.mono (by decide)) (Ht.one.mono (by decide)) (decide_eq_true hE)
  have g2 := rHas_is (t := true) (d := 0) (bh.2.mono (by decide)) (.zero _) (decide_eq_true hB2)
  rw [← dyD_zero] at g2
  have g3 := rHas_is (t := true) (d := 1) (bh.1.mono (by decide)) (Ht.one.mono (by decide)) (decide_eq_true hB1)
  have g4 := rHas8_is (t := true) (c := (1, 0)) (rh.mono (by decide)) (one.mono (by decide)) (decide_eq_true ⟨m1, m2⟩)
  have g5 := rdsign_sim (eh.1.mono (show 17200 ≤ 50000 by decide))
  rw [show dsg (expV (0, 0) 30).1 = 1 by
    rcases dsg_cases (expV (0, 0) 30).1 with ⟨c, _⟩ | ⟨c, _⟩ | ⟨_, c⟩
    · have := q_le.2 (show (expV (0, 0) 30).1 ≤ 0 by grind); rw [q_zero] at this; grind
    · rw [c, q_zero] at ep; grind
    · exact c] at g5
  have k1 : Sim Tryz.prog G0 false 20 [.int .i64 1] (dyD 1) := rofd_sim 1 (by decide) (by decide)
  have k2 : Sim Tryz.prog G0 false 42 [.int .i64 1, .int .i64 0] (cxD (1, 0)) := rof_sim 1 0 (by decide) (by decide) (by decide) (by decide)
  have kp := pt_zero
  clear hE hB1 hB2 eh bh ep m1 m2 rh one cz z
  generalize imul (expV (0, 0) 30) (bothV (0, 0) 30).1 = r1 at *
  generalize imul (expV (0, 0) 30) (bothV (0, 0) 30).2 = r2 at *
  generalize expV (0, 0) 30 = e at *
  generalize bothV (0, 0) 30 = V at *
  generalize dof 65 0 = d65 at *
  obtain ⟨_, _⟩ := e
  obtain ⟨⟨_, _⟩, ⟨_, _⟩⟩ := V
  obtain ⟨_, _⟩ := r1
  obtain ⟨_, _⟩ := r2
  refine sim_mk tab_ok Tryz.func12 rfl (by kernel_rfl) rfl ⟨Nat.le_of_ble_eq_true rfl, Nat.le_of_ble_eq_true rfl⟩ ?_
  repeat' ((conv => whnf); first
    | with_reducible refine CallX.data ?_
    | refine CallE.mk _ _ (o0) ?_
    | refine CallE.mk _ _ (o65) ?_
    | refine CallE.mk _ _ (sE) ?_
    | refine CallE.mk _ _ (sS) ?_
    | refine CallE.mk _ _ (sC) ?_
    | refine CallE.mk _ _ (sN) ?_
    | refine CallE.mk _ _ (sR) ?_
    | refine CallE.mk _ _ (g1) ?_
    | refine CallE.mk _ _ (g2) ?_
    | refine CallE.mk _ _ (g3) ?_
    | refine CallE.mk _ _ (g4) ?_
    | refine CallE.mk _ _ (g5) ?_
    | refine CallE.mk _ _ (k1) ?_
    | refine CallE.mk _ _ (k2) ?_
    | refine CallE.mk _ _ (kp) ?_
    | refine RegE.early (Cd.mk (show regOk _ _ _ _ = true by kernel_rfl) ?_)
    | refine Cd.mk rfl ?_
    | refine Br.t ?_
    | refine NthE.mk _ rfl ?_
    | (refine TkE.fL ?_; (conv => whnf); fail_if_success (show forceL _ _))
    | refine Res.mk ?_
    | ((with_reducible refine EqE.idS ?_); (refine EqE.fP ?_; (conv => whnf); fail_if_success (show forceL _ _)))
    | refine Cd.mk (Nat.le_of_ble_eq_true rfl) ?_)
  rfl
end Go.Ev.Ar

namespace Go.Ev.Ar
open Go Go.Ev Go.Proofs

theorem beyond_false {z : Cq} (ho : Ord z) (h : mayP z = false) : dsg (z.1 - dof (-64) 0) < 0 ∨ dsg (z.2 - dof 64 0) > 0 ∨ dexp z.1 < -1000 ∨ dexp z.2 < -1000 := by
  refine Classical.byContradiction fun c => ?_
  have c1 : 0 ≤ dsg (z.1 - dof (-64) 0) := by omega
  have c2 : dsg (z.2 - dof 64 0) ≤ 0 := by omega
  have d1 := dsg_ge.1 c1
  have d2 := dsg_le.1 c2
  have e64 : dof (-64) 0 = -dof 64 0 := by rw [dof_neg]
  rw [e64] at d1
  unfold Ord at ho
  have : mayP z = true := by
    rw [mayP_iff]; unfold smallP
    rw [decide_eq_true (show -1000 ≤ dexp z.1 by omega), decide_eq_true (show -1000 ≤ dexp z.2 by omega), decide_eq_true (show dabs z.1 ≤ dof 64 0 by rw [dabs_le_iff]; grind), decide_eq_true (show dabs z.2 ≤ dof 64 0 by rw [dabs_le_iff]; grind)]
    exact ⟨rfl, rfl⟩
  rw [this] at h; cases h
theorem beyond_true {z : Cq} (h : mayP z = true) : dsg (z.1 - dof (-64) 0) ≥ 0 ∧ dsg (z.2 - dof 64 0) ≤ 0 ∧ -1000 ≤ dexp z.1 ∧ -1000 ≤ dexp z.2 := by
  rw [mayP_iff] at h
  unfold smallP at h
  rw [Bool.and_eq_true, Bool.and_eq_true] at h
  obtain ⟨⟨a1, a2⟩, b1, b2⟩ := h
  have a2 := of_decide_eq_true a2
  have b2 := of_decide_eq_true b2
  rw [dabs_le_iff] at a2 b2
  have e64 : dof (-64) 0 = -dof 64 0 := by rw [dof_neg]
  exact ⟨dsg_ge.2 (by rw [e64]; grind), dsg_le.2 (by grind), of_decide_eq_true a1, of_decide_eq_true b1⟩
theorem beyond_sim {z : Cq} {t : Bool} (hz : Hc 3000 z) (ho : Ord z) (ht : (!mayP z) = t) : Sim Tryz.prog G0 true 27 [cxD z] (.bool t) := by
  have k1 := rofd_sim (-64) (by decide) (by decide)
  have k2 := rofd_sim 64 (by decide) (by decide)
  have h1 : Ht 200 (dof (-64) 0) := (Ht.cst (m := -64) (e := 0) (by decide)).mono (by decide)
  have h2 : Ht 200 (dof 64 0) := (Ht.cst (m := 64) (e := 0) (by decide)).mono (by decide)
  have c1 := rdcmp_sim (hz.1.mono (show 3000 ≤ 49000 by decide)) (h1.mono (by decide)) ((hz.1.sub (h1.mono (show 200 ≤ 3000 by decide)) (c := 3001) (by decide)).mono (by decide))
  have c2 := rdcmp_sim (hz.2.mono (show 3000 ≤ 49000 by decide)) (h2.mono (by decide)) ((hz.2.sub (h2.mono (show 200 ≤ 3000 by decide)) (c := 3001) (by decide)).mono (by decide))
  cases t
  · have h : mayP z = true := by simpa using ht
    obtain ⟨f1, f2, f3, f4⟩ := beyond_true h
    clear ht h
    generalize dof (-64) 0 = u at *
    generalize dof 64 0 = v at *
    obtain ⟨a, b⟩ := z
    dsimp only at *
    refine sim_mk tab_ok Tryz.func27 rfl (by kernel_rfl) rfl ⟨Nat.le_of_ble_eq_true rfl, Nat.le_of_ble_eq_true rfl⟩ ?_
    repeat' ((conv => whnf); first
      | with_reducible refine Br.dec (fun h => absurd h (by omega)) (fun _ => ?_)
      | refine CallE.mk _ _ (k1) ?_
      | refine CallE.mk _ _ (k2) ?_
      | refine CallE.mk _ _ (c1) ?_
      | refine CallE.mk _ _ (c2) ?_
      | refine RegE.early (Cd.mk (show regOk _ _ _ _ = true by kernel_rfl) ?_)
      | refine Cd.mk rfl ?_
      | refine Br.t ?_
      | refine Br.f ?_
      | with_reducible refine Br.dec (fun _ => ?_) (fun _ => ?_)
      | refine NthE.mk _ rfl ?_
      | (refine TkE.fL ?_; (conv => whnf); fail_if_success (show forceL _ _))
      | refine Res.mk ?_)
    all_goals (try dsimp only at *)
    all_goals first | rfl | exact congrArg D.bool (decide_eq_false (by omega)).symm | (exfalso; omega)
  · have h : mayP z = false := by simpa using ht
    have f := beyond_false ho h
    clear ht h
    generalize dof (-64) 0 = u at *
    generalize dof 64 0 = v at *
    obtain ⟨a, b⟩ := z
    dsimp only at *
    have f : dsg (a - u) < 0 ∨ dsg (b - v) > 0 ∨ dexp a < -1000 ∨ dexp b < -1000 := f
    refine sim_mk tab_ok Tryz.func27 rfl (by kernel_rfl) rfl ⟨Nat.le_of_ble_eq_true rfl, Nat.le_of_ble_eq_true rfl⟩ ?_
    repeat' ((conv => whnf); first
      | refine CallE.mk _ _ (k1) ?_
      | refine CallE.mk _ _ (k2) ?_
      | refine CallE.mk _ _ (c1) ?_
      | refine CallE.mk _ _ (c2) ?_
      | refine RegE.early (Cd.mk (show regOk _ _ _ _ = true by kernel_rfl) ?_)
      | refine Cd.mk rfl ?_
      | refine Br.t ?_
      | refine Br.f ?_
      | with_reducible refine Br.dec (fun _ => ?_) (fun _ => ?_)
      | refine NthE.mk _ rfl ?_
      | (refine TkE.fL ?_; (conv => whnf); fail_if_success (show forceL _ _))
      | refine Res.mk ?_)
    all_goals (try dsimp only at *)
    all_goals first | rfl | exact congrArg D.bool (decide_eq_true (by omega)).symm | (exfalso; omega)
theorem meet_of {z w : Cq} (oz : Ord z) (ow : Ord w) (h1 : z.1 ≤ w.2) (h2 : w.1 ≤ z.2) : imeet z w = ((imeet z w).1, true) := by
  unfold Ord at *
  unfold imeet
  rw [if_pos (by unfold mx mn; grind)]
/-- The exponents of a number of an interval lie in what is told, in the end. -/
theorem expV_mm {z : Cq} {q : Dyadic} (p : Int) (hq : ihas z q) (hs : smallP q = true) (h : mayP z = true) : Mm (gr (q * dof 1 (-16)).toRat) (expV z p) := by
  rw [mayP_iff] at h
  exact Mm.of _ fun n hn => expV_has hq hs h.1 h.2 n hn
theorem mayP_l {z : Cq} (h : mayP z = true) : smallP z.1 = true := (mayP_iff.1 h).1
theorem has_l {z : Cq} (h : Ord z) : ihas z z.1 := ⟨q_le.1 Rat.le_refl, h⟩
theorem neg_scl (q : Dyadic) : (-q * dof 1 (-16)).toRat = -(q * dof 1 (-16)).toRat := by rw [q_mul, q_mul, q_neg]; grind
theorem add_scl (p q : Dyadic) : ((p + q) * dof 1 (-16)).toRat = (p * dof 1 (-16)).toRat + (q * dof 1 (-16)).toRat := by rw [q_mul, q_mul, q_mul, q_add]; grind
theorem small_q {q : Dyadic} (h : smallP q = true) : qab (q * dof 1 (-16)).toRat ≤ 1 / 4 := by have := (small_facts h).1; grind
theorem exp_inv {a : Cq} (p : Int) (oa : Ord a) (h : mayP a = true) : ihas (imul (expV a p) (expV (ineg a) p)) 1 := by
  have hn := mayP_neg h
  have m2 := expV_mm (q := -a.1) p ⟨by show -a.2 ≤ -a.1; unfold Ord at oa; grind, by show -a.1 ≤ -a.1; exact q_le.1 Rat.le_refl⟩ (by rw [smallP_neg]; exact mayP_l h) hn
  rw [neg_scl] at m2
  exact inv_one (small_q (mayP_l h)) (expV_mm p (has_l oa) (mayP_l h) h) m2 (expV_ord p oa h) (expV_ord p (ineg_ord oa) hn)
theorem cos_sin {a : Cq} (p : Int) (oa : Ord a) (h : mayP a = true) : ihas (iadd (ipow (bothV a p).2 2) (ipow (bothV a p).1 2)) 1 := by
  have o := bothV_ord p oa h
  have k := mayP_iff.1 h
  obtain ⟨c, s⟩ := bothV_has p (has_l oa) k.1 k.1 k.2
  exact circle_one2 (small_q k.1) c s o.1 o.2
theorem exp_sum {a b : Cq} (p : Int) (oa : Ord a) (ob : Ord b) (ha : mayP a = true) (hb : mayP b = true) (hs : mayP (iadd a b) = true) : imeet (expV (iadd a b) p) (imul (expV a p) (expV b p)) = ((imeet (expV (iadd a b) p) (imul (expV a p) (expV b p))).1, true) := by
  have os := iadd_ord oa ob
  have m := expV_mm (q := a.1 + b.1) p (has_l os) (mayP_l hs) hs
  rw [add_scl] at m
  have k := sum_meet (small_q (mayP_l ha)) (small_q (mayP_l hb)) (expV_mm p (has_l oa) (mayP_l ha) ha) (expV_mm p (has_l ob) (mayP_l hb) hb) m (expV_ord p oa ha) (expV_ord p ob hb)
  exact meet_of (expV_ord p os hs) (imul_ord _ _) k.1 k.2
theorem mayP_rof_iff (z : Cq) : mayP (rof z) = mayP z := by
  unfold mayP rof mn mx; dsimp only
  by_cases h : z.1 ≤ z.2
  · rw [if_pos h]
    by_cases k : z.2 ≤ z.1
    · have : z.1 = z.2 := by grind
      rw [if_pos k, this]
    · rw [if_neg k]
  · rw [if_neg h, if_pos (by grind), Bool.and_comm]
theorem mayP_neg_iff (z : Cq) : mayP (ineg z) = mayP z := by
  unfold mayP ineg; dsimp only
  rw [smallP_neg, smallP_neg, Bool.and_comm]
end Go.Ev.Ar

namespace Go.Ev.Ar
open Go Go.Ev Go.Proofs

theorem n_rem100 (n : Nat) : (n : Int).tmod 100 = ((n % 100 : Nat) : Int) := n_rem n 100
set_option maxRecDepth 10000 in
set_option maxHeartbeats 8000000 in
theorem elemsums_sim (r s : RC) (n : Nat) (hn : n < 256) : Sim Tryz.prog G0 true 5 [.agg r.cells, .agg s.cells, .int .u8 n] (.bool true) := by
  have sf := fewreal23_sim r
  have sg := fewreal23_sim s
  have fr := fun h => few_cx23 (r := r) (RC.f23_few h)
  have fs := fun h => few_cx23 (r := s) (RC.f23_few h)
  have gr' := fun h => cxS_few (r := r) (RC.f23_few h)
  have gs := fun h => cxS_few (r := s) (RC.f23_few h)
  obtain ⟨b1, l1, e1, c1, k1, f1⟩ := r
  obtain ⟨b2, l2, e2, c2, k2, f2⟩ := s
  cases h1 : RC.f23 ⟨b1, l1, e1, c1, k1, f1⟩
  · rw [h1] at sf
    refine sim_mk tab_ok Tryz.func5 rfl (by kernel_rfl) rfl ⟨Nat.le_of_ble_eq_true rfl, Nat.le_of_ble_eq_true rfl⟩ ?_
    repeat' ((conv => whnf); first
      | with_reducible refine CallX.data ?_
      | refine CallE.mk _ _ (known23_sim) ?_
      | refine CallE.mk _ _ (sf) ?_
      | refine RegE.early (Cd.mk (show regOk _ _ _ _ = true by kernel_rfl) ?_)
      | refine Cd.mk rfl ?_
      | refine Br.t ?_
      | refine Br.f ?_
      | (refine TkE.fL ?_; (conv => whnf); fail_if_success (show forceL _ _))
      | refine Res.mk ?_)
    rfl
  rw [h1] at sf
  cases h2 : RC.f23 ⟨b2, l2, e2, c2, k2, f2⟩
  · rw [h2] at sg
    refine sim_mk tab_ok Tryz.func5 rfl (by kernel_rfl) rfl ⟨Nat.le_of_ble_eq_true rfl, Nat.le_of_ble_eq_true rfl⟩ ?_
    repeat' ((conv => whnf); first
      | with_reducible refine CallX.data ?_
      | refine CallE.mk _ _ (known23_sim) ?_
      | refine CallE.mk _ _ (sf) ?_
      | refine CallE.mk _ _ (sg) ?_
      | refine RegE.early (Cd.mk (show regOk _ _ _ _ = true by kernel_rfl) ?_)
      | refine Cd.mk rfl ?_
      | refine Br.t ?_
      | refine Br.f ?_
      | (refine TkE.fL ?_; (conv => whnf); fail_if_success (show forceL _ _))
      | refine Res.mk ?_)
    rfl
  rw [h2] at sg
  obtain ⟨xr, xf, xh⟩ := fr h1
  obtain ⟨yr, yf, yh⟩ := fs h2
  have xs := gr' h1
  have ys := gs h2
  clear fr fs gr' gs
  generalize RC.val ⟨b1, l1, e1, c1, k1, f1⟩ = x at xr xf xh xs
  generalize RC.val ⟨b2, l2, e2, c2, k2, f2⟩ = y at yr yf yh ys
  obtain ⟨p, hp⟩ : ∃ p, ((n % 100 : Nat) : Int) + 2 = p := ⟨_, rfl⟩
  have A := rReal_is xf (xh.mono (by decide)) rfl
  have B := rReal_is yf (yh.mono (by decide)) rfl
  have oa := rof_ord x
  have ob := rof_ord y
  have ha := xh.rof
  have hb := yh.rof
  have N := rNegReal_is (ha.mono (show 1320 ≤ 50000 by decide)) rfl
  have na : Hc 1320 (ineg (rof x)) := ha.ineg
  have b1' := beyond_sim (z := rof x) (ha.mono (by decide)) oa rfl
  have b2' := beyond_sim (z := rof y) (hb.mono (by decide)) ob rfl
  have one : Sim Tryz.prog G0 false 20 [.int .i64 1] (dyD 1) := rofd_sim 1 (by decide) (by decide)
  have ns := CxS.of (na.mono (show 1320 ≤ 10000 by decide))
  cases mx' : mayP x
  · have e1' := eExp_no p xs (xh.mono (by decide)) mx'
    have e2' := eExp_no p ns (na.mono (by decide)) (show mayP (ineg (rof x)) = false by rw [mayP_neg_iff, mayP_rof_iff]; exact mx')
    have e3' := eSin_no p xs (xh.mono (by decide)) mx'
    have e4' := eCos_no p xs (xh.mono (by decide)) mx'
    rw [mayP_rof_iff, mx'] at b1'
    clear xs ns xf yf ys xr yr oa ob ha hb xh yh na mx'
    generalize ineg (rof x) = na at *
    generalize rof x = a at *
    generalize rof y = b at *
    obtain ⟨_, _⟩ := na
    obtain ⟨_, _⟩ := a
    obtain ⟨_, _⟩ := b
    refine sim_mk tab_ok Tryz.func5 rfl (by kernel_rfl) rfl ⟨Nat.le_of_ble_eq_true rfl, Nat.le_of_ble_eq_true rfl⟩ ?_
    repeat' ((conv => whnf); first
      | with_reducible refine CallX.data ?_
      | with_reducible refine Br.dec (fun _ => ?_) (fun h => absurd (by omega) h)
      | refine CallE.mk _ _ (known23_sim) ?_
      | refine CallE.mk _ _ (sf) ?_
      | refine CallE.mk _ _ (sg) ?_
      | refine CallE.mk _ _ (A) ?_
      | refine CallE.mk _ _ (B) ?_
      | refine CallE.mk _ _ (N) ?_
      | refine CallE.mk _ _ (e1') ?_
      | refine CallE.mk _ _ (e2') ?_
      | refine CallE.mk _ _ (e3') ?_
      | refine CallE.mk _ _ (e4') ?_
      | refine CallE.mk _ _ (b1') ?_
      | refine RegE.early (Cd.mk (show regOk _ _ _ _ = true by kernel_rfl) ?_)
      | refine Cd.mk rfl ?_
      | refine Br.t ?_
      | refine Br.f ?_
      | refine NthE.mk _ rfl ?_
      | (refine TkE.fL ?_; (conv => whnf); fail_if_success (show forceL _ _))
      | refine Res.mk ?_
      | ((with_reducible refine EqE.idW ?_); first | refine EqE.mk p ((wrap_in (by omega) (by omega)).trans hp) ?_ | with_reducible refine EqE.mk _ (n_i64 _ (by omega)) ?_)
      | ((with_reducible refine EqE.idM ?_); refine EqE.mk _ (n_rem100 n) ?_)
      | ((with_reducible refine EqE.idS ?_); (refine EqE.fP ?_; (conv => whnf); fail_if_success (show forceL _ _)))
      | refine Cd.mk (Nat.le_of_ble_eq_true rfl) ?_
      | refine Cd.mk (by first | omega | (simp only [length_limbs, length_la]; omega)) ?_)
    rfl
  have ma : mayP (rof x) = true := by rw [mayP_rof_iff]; exact mx'
  have hi := exp_inv p oa ma
  have hc := cos_sin p oa ma
  have e1' := eExp_ok (p := p) xs (xh.mono (by decide)) mx' rfl
  have e2' := eExp_ok (p := p) ns (na.mono (by decide)) (mayP_neg ma) rfl
  rw [rof_self (ineg_ord oa)] at e2'
  have e3' := eSin_ok (p := p) xs (xh.mono (by decide)) mx' rfl
  have e4' := eCos_ok (p := p) xs (xh.mono (by decide)) mx' rfl
  rw [ma] at b1'
  have he := expV_hc p ma
  have hf := expV_hc p (mayP_neg ma)
  have hv := bothV_hc p oa ma
  have M1 := rMulReal_is (he.mono (by decide)) (hf.mono (by decide)) rfl
  have hM : Hc 34400 (imul (expV (rof x) p) (expV (ineg (rof x)) p)) := he.imul hf (by decide)
  have G1 := rHas_is (t := true) (d := 1) (hM.mono (by decide)) (Ht.one.mono (by decide)) (decide_eq_true hi)
  have P1 := rPowReal_is (K := 2) 2 hv.2 (by decide) (by decide) rfl
  have P2 := rPowReal_is (K := 2) 2 hv.1 (by decide) (by decide) rfl
  have hp1 : Hc 12001 (ipow (bothV (rof x) p).2 2) := hv.2.ipow 2 (k := 2) (by decide) (by decide)
  have hp2 : Hc 12001 (ipow (bothV (rof x) p).1 2) := hv.1.ipow 2 (k := 2) (by decide) (by decide)
  have S1 := rAddReal_is (hp1.mono (by decide)) (hp2.mono (by decide)) rfl
  have hS : Hc 12002 (iadd (ipow (bothV (rof x) p).2 2) (ipow (bothV (rof x) p).1 2)) := hp1.iadd hp2 (by decide)
  have G2 := rHas_is (t := true) (d := 1) (hS.mono (by decide)) (Ht.one.mono (by decide)) (decide_eq_true hc)
  have Q := rAddReal_is (ha.mono (show 1320 ≤ 48000 by decide)) (hb.mono (show 1320 ≤ 48000 by decide)) rfl
  have oq := iadd_ord oa ob
  have hq : Hc 1321 (iadd (rof x) (rof y)) := ha.iadd hb (by decide)
  have b3' := beyond_sim (z := iadd (rof x) (rof y)) (hq.mono (by decide)) oq rfl
  have qs := CxS.of (hq.mono (show 1321 ≤ 10000 by decide))
  have xsum := exp_sum (a := rof x) (b := rof y) p oa ob ma
  clear hi hc hM hS hp1 hp2 hv hf xs ns xf xr oa xh na mx' ha
  have hV : ∃ V, bothV (rof x) p = V := ⟨_, rfl⟩
  obtain ⟨V, hV⟩ := hV
  rw [hV] at e3' e4' P1 P2 S1 G2
  clear hV
  generalize iadd (ipow V.2 2) (ipow V.1 2) = S at *
  generalize ipow V.2 2 = p1 at *
  generalize ipow V.1 2 = p2 at *
  generalize imul (expV (rof x) p) (expV (ineg (rof x)) p) = M at *
  generalize expV (ineg (rof x)) p = f at *
  cases my : mayP y
  · have g1 := eExp_no p ys (yh.mono (by decide)) my
    rw [mayP_rof_iff, my] at b2'
    have g2 : ∃ E c, Sim Tryz.prog G0 false 15 [cxD (iadd (rof x) (rof y)), .int .i64 p] (.tup [cxD E, .int .i64 c]) := by
      cases mq : mayP (iadd (rof x) (rof y))
      · exact ⟨_, _, eExp_no p qs (hq.mono (by decide)) mq⟩
      · exact ⟨_, _, eExp_ok (p := p) qs (hq.mono (by decide)) mq rfl⟩
    obtain ⟨E, c, g2⟩ := g2
    clear xsum qs hq oq hb ob yr yf yh ys my ma he b3'
    generalize expV (rof x) p = e at *
    generalize iadd (rof x) (rof y) = q at *
    generalize ineg (rof x) = na at *
    generalize rof x = a at *
    generalize rof y = b at *
    obtain ⟨_, _⟩ := na
    obtain ⟨_, _⟩ := a
    obtain ⟨_, _⟩ := b
    obtain ⟨_, _⟩ := q
    obtain ⟨_, _⟩ := e
    obtain ⟨_, _⟩ := f
    obtain ⟨_, _⟩ := E
    obtain ⟨⟨_, _⟩, ⟨_, _⟩⟩ := V
    obtain ⟨_, _⟩ := S
    obtain ⟨_, _⟩ := p1
    obtain ⟨_, _⟩ := p2
    obtain ⟨_, _⟩ := M
    refine sim_mk tab_ok Tryz.func5 rfl (by kernel_rfl) rfl ⟨Nat.le_of_ble_eq_true rfl, Nat.le_of_ble_eq_true rfl⟩ ?_
    repeat' ((conv => whnf); first
      | with_reducible refine CallX.data ?_
      | refine CallE.mk _ _ (known23_sim) ?_
      | refine CallE.mk _ _ (sf) ?_
      | refine CallE.mk _ _ (sg) ?_
      | refine CallE.mk _ _ (A) ?_
      | refine CallE.mk _ _ (B) ?_
      | refine CallE.mk _ _ (N) ?_
      | refine CallE.mk _ _ (e1') ?_
      | refine CallE.mk _ _ (e2') ?_
      | refine CallE.mk _ _ (e3') ?_
      | refine CallE.mk _ _ (e4') ?_
      | refine CallE.mk _ _ (b1') ?_
      | refine CallE.mk _ _ (one) ?_
      | refine CallE.mk _ _ (M1) ?_
      | refine CallE.mk _ _ (G1) ?_
      | refine CallE.mk _ _ (P1) ?_
      | refine CallE.mk _ _ (P2) ?_
      | refine CallE.mk _ _ (S1) ?_
      | refine CallE.mk _ _ (G2) ?_
      | refine CallE.mk _ _ (Q) ?_
      | refine CallE.mk _ _ (g1) ?_
      | refine CallE.mk _ _ (g2) ?_
      | refine CallE.mk _ _ (b2') ?_
      | refine RegE.early (Cd.mk (show regOk _ _ _ _ = true by kernel_rfl) ?_)
      | refine Cd.mk rfl ?_
      | refine Br.t ?_
      | refine Br.f ?_
      | refine NthE.mk _ rfl ?_
      | (refine TkE.fL ?_; (conv => whnf); fail_if_success (show forceL _ _))
      | refine Res.mk ?_
      | ((with_reducible refine EqE.idW ?_); first | refine EqE.mk p ((wrap_in (by omega) (by omega)).trans hp) ?_ | with_reducible refine EqE.mk _ (n_i64 _ (by omega)) ?_)
      | ((with_reducible refine EqE.idM ?_); refine EqE.mk _ (n_rem100 n) ?_)
      | ((with_reducible refine EqE.idS ?_); (refine EqE.fP ?_; (conv => whnf); fail_if_success (show forceL _ _)))
      | refine Cd.mk (Nat.le_of_ble_eq_true rfl) ?_
      | refine Cd.mk (by first | omega | (simp only [length_limbs, length_la]; omega)) ?_)
    rfl
  have g1 := eExp_ok (p := p) ys (yh.mono (by decide)) my rfl
  have mb : mayP (rof y) = true := by rw [mayP_rof_iff]; exact my
  rw [mb] at b2'
  cases mq : mayP (iadd (rof x) (rof y))
  · have g2 := eExp_no p qs (hq.mono (by decide)) mq
    rw [mq] at b3'
    clear xsum qs hq oq hb ob yr yf yh ys my ma he mb mq
    generalize expV (rof x) p = e at *
    generalize expV (rof y) p = g at *
    generalize iadd (rof x) (rof y) = q at *
    generalize ineg (rof x) = na at *
    generalize rof x = a at *
    generalize rof y = b at *
    obtain ⟨_, _⟩ := na
    obtain ⟨_, _⟩ := a
    obtain ⟨_, _⟩ := b
    obtain ⟨_, _⟩ := q
    obtain ⟨_, _⟩ := e
    obtain ⟨_, _⟩ := f
    obtain ⟨_, _⟩ := g
    obtain ⟨⟨_, _⟩, ⟨_, _⟩⟩ := V
    obtain ⟨_, _⟩ := S
    obtain ⟨_, _⟩ := p1
    obtain ⟨_, _⟩ := p2
    obtain ⟨_, _⟩ := M
    refine sim_mk tab_ok Tryz.func5 rfl (by kernel_rfl) rfl ⟨Nat.le_of_ble_eq_true rfl, Nat.le_of_ble_eq_true rfl⟩ ?_
    repeat' ((conv => whnf); first
      | with_reducible refine CallX.data ?_
      | refine CallE.mk _ _ (known23_sim) ?_
      | refine CallE.mk _ _ (sf) ?_
      | refine CallE.mk _ _ (sg) ?_
      | refine CallE.mk _ _ (A) ?_
      | refine CallE.mk _ _ (B) ?_
      | refine CallE.mk _ _ (N) ?_
      | refine CallE.mk _ _ (e1') ?_
      | refine CallE.mk _ _ (e2') ?_
      | refine CallE.mk _ _ (e3') ?_
      | refine CallE.mk _ _ (e4') ?_
      | refine CallE.mk _ _ (b1') ?_
      | refine CallE.mk _ _ (one) ?_
      | refine CallE.mk _ _ (M1) ?_
      | refine CallE.mk _ _ (G1) ?_
      | refine CallE.mk _ _ (P1) ?_
      | refine CallE.mk _ _ (P2) ?_
      | refine CallE.mk _ _ (S1) ?_
      | refine CallE.mk _ _ (G2) ?_
      | refine CallE.mk _ _ (Q) ?_
      | refine CallE.mk _ _ (g1) ?_
      | refine CallE.mk _ _ (g2) ?_
      | refine CallE.mk _ _ (b2') ?_
      | refine CallE.mk _ _ (b3') ?_
      | refine RegE.early (Cd.mk (show regOk _ _ _ _ = true by kernel_rfl) ?_)
      | refine Cd.mk rfl ?_
      | refine Br.t ?_
      | refine Br.f ?_
      | refine NthE.mk _ rfl ?_
      | (refine TkE.fL ?_; (conv => whnf); fail_if_success (show forceL _ _))
      | refine Res.mk ?_
      | ((with_reducible refine EqE.idW ?_); first | refine EqE.mk p ((wrap_in (by omega) (by omega)).trans hp) ?_ | with_reducible refine EqE.mk _ (n_i64 _ (by omega)) ?_)
      | ((with_reducible refine EqE.idM ?_); refine EqE.mk _ (n_rem100 n) ?_)
      | ((with_reducible refine EqE.idS ?_); (refine EqE.fP ?_; (conv => whnf); fail_if_success (show forceL _ _)))
      | refine Cd.mk (Nat.le_of_ble_eq_true rfl) ?_
      | refine Cd.mk (by first | omega | (simp only [length_limbs, length_la]; omega)) ?_)
    rfl
  have g2 := eExp_ok (p := p) qs (hq.mono (by decide)) mq rfl
  rw [rof_self oq] at g2
  have hg := expV_hc p mb
  have hh := expV_hc p mq
  have M2 := rMulReal_is (he.mono (by decide)) (hg.mono (by decide)) rfl
  have hM2 : Hc 34400 (imul (expV (rof x) p) (expV (rof y) p)) := he.imul hg (by decide)
  have T := rMeet_is (hh.mono (by decide)) (hM2.mono (by decide)) (xsum mb mq)
  clear xsum qs hq oq hb ob yr yf yh ys my ma he mb mq hg hh hM2 b3'
  generalize (imeet (expV (iadd (rof x) (rof y)) p) (imul (expV (rof x) p) (expV (rof y) p))).1 = t at *
  generalize imul (expV (rof x) p) (expV (rof y) p) = m at *
  generalize expV (iadd (rof x) (rof y)) p = h at *
  generalize expV (rof x) p = e at *
  generalize expV (rof y) p = g at *
  generalize iadd (rof x) (rof y) = q at *
  generalize ineg (rof x) = na at *
  generalize rof x = a at *
  generalize rof y = b at *
  obtain ⟨_, _⟩ := na
  obtain ⟨_, _⟩ := a
  obtain ⟨_, _⟩ := b
  obtain ⟨_, _⟩ := q
  obtain ⟨_, _⟩ := e
  obtain ⟨_, _⟩ := f
  obtain ⟨_, _⟩ := g
  obtain ⟨_, _⟩ := h
  obtain ⟨_, _⟩ := t
  obtain ⟨_, _⟩ := m
  obtain ⟨⟨_, _⟩, ⟨_, _⟩⟩ := V
  obtain ⟨_, _⟩ := S
  obtain ⟨_, _⟩ := p1
  obtain ⟨_, _⟩ := p2
  obtain ⟨_, _⟩ := M
  refine sim_mk tab_ok Tryz.func5 rfl (by kernel_rfl) rfl ⟨Nat.le_of_ble_eq_true rfl, Nat.le_of_ble_eq_true rfl⟩ ?_
  repeat' ((conv => whnf); first
    | with_reducible refine CallX.data ?_
    | refine CallE.mk _ _ (known23_sim) ?_
    | refine CallE.mk _ _ (sf) ?_
    | refine CallE.mk _ _ (sg) ?_
    | refine CallE.mk _ _ (A) ?_
    | refine CallE.mk _ _ (B) ?_
    | refine CallE.mk _ _ (N) ?_
    | refine CallE.mk _ _ (e1') ?_
    | refine CallE.mk _ _ (e2') ?_
    | refine CallE.mk _ _ (e3') ?_
    | refine CallE.mk _ _ (e4') ?_
    | refine CallE.mk _ _ (b1') ?_
    | refine CallE.mk _ _ (one) ?_
    | refine CallE.mk _ _ (M1) ?_
    | refine CallE.mk _ _ (G1) ?_
    | refine CallE.mk _ _ (P1) ?_
    | refine CallE.mk _ _ (P2) ?_
    | refine CallE.mk _ _ (S1) ?_
    | refine CallE.mk _ _ (G2) ?_
    | refine CallE.mk _ _ (Q) ?_
    | refine CallE.mk _ _ (g1) ?_
    | refine CallE.mk _ _ (g2) ?_
    | refine CallE.mk _ _ (M2) ?_
    | refine CallE.mk _ _ (T) ?_
    | refine RegE.early (Cd.mk (show regOk _ _ _ _ = true by kernel_rfl) ?_)
    | refine Cd.mk rfl ?_
    | refine Br.f ?_
    | refine NthE.mk _ rfl ?_
    | (refine TkE.fL ?_; (conv => whnf); fail_if_success (show forceL _ _))
    | refine Res.mk ?_
    | ((with_reducible refine EqE.idW ?_); first | refine EqE.mk p ((wrap_in (by omega) (by omega)).trans hp) ?_ | with_reducible refine EqE.mk _ (n_i64 _ (by omega)) ?_)
    | ((with_reducible refine EqE.idM ?_); refine EqE.mk _ (n_rem100 n) ?_)
    | ((with_reducible refine EqE.idS ?_); (refine EqE.fP ?_; (conv => whnf); fail_if_success (show forceL _ _)))
    | refine Cd.mk (Nat.le_of_ble_eq_true rfl) ?_
    | refine Cd.mk (by first | omega | (simp only [length_limbs, length_la]; omega)) ?_)
  rfl
theorem elemsums_at (r s : RC) (n : Int) (h0 : 0 ≤ n) (h1 : n ≤ 255) : Sim Tryz.prog G0 true 5 [.agg r.cells, .agg s.cells, .int .u8 n] (.bool true) := by
  obtain ⟨n, rfl⟩ := Int.eq_ofNat_of_zero_le h0
  exact elemsums_sim r s n (by omega)
end Go.Ev.Ar
