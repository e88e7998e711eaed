/- Contracts of the given functions, on data. Conditions stand in each theorem. -/
import Derived.Test.YtagjickjfjgfpaaGreatDoorGAvTu
import Derived.Test.YtagjickjfjgfpaaGreatDoorGAvRectB
import Derived.Test.YtagjickjfjgfpaaGreatDoorGEvU
set_option linter.unusedSimpArgs false
set_option linter.unusedVariables false
namespace Go.Ev.Ar
open Go Go.Ev Go.Proofs

theorem about_is {r : Dyadic} (hr : Ht 1048576 r) : Sim Tryz.prog G0 false 132 [dyD r] (cxD (-r, r)) := by
  have s := dneg_sim (.of hr)
  refine sim_mk tab_ok Tryz.func132 rfl (by kernel_rfl) rfl ⟨Nat.le_of_ble_eq_true rfl, Nat.le_of_ble_eq_true rfl⟩ ?_
  repeat' ((conv => whnf); first
    | refine CallE.mk _ _ (s) ?_
    | refine RegE.early (Cd.mk (show regOk _ _ _ _ = true by kernel_rfl) ?_)
    | refine Cd.mk rfl ?_
    | (refine TkE.fL ?_; (conv => whnf); fail_if_success (show forceL _ _))
    | refine Res.mk ?_
    | ((with_reducible refine EqE.idS ?_); (refine EqE.fP ?_; (conv => whnf); fail_if_success (show forceL _ _)))
    | refine Cd.mk (Nat.le_of_ble_eq_true rfl) ?_)
  rfl
def rqCe (z : Rq) : List A := dyC z.1.1 ++ dyC z.1.2 ++ dyC z.2.1 ++ dyC z.2.2
theorem dyR_w {h : Nat} {q : Dyadic} (hq : Ht h q) (hh : h ≤ 1048576 := by decide) : DyR (dyD q) q := .of (hq.mono hh)
theorem iy_ht {s : Dyadic} {wp : Int} (h2 : wp ≤ 300) (hs : qab s.toRat ≤ 1 / 1024) (hn : Nz 1017 s) : Hc 1400 (iround (s, s) wp) := by
  have b0 : qab s.toRat ≤ (dof 1 ((0 : Nat) : Int)).toRat := by rw [show dof 1 ((0 : Nat) : Int) = 1 by decide, q_one]; grind
  exact ⟨(rto_htz (P := 300) (K := 0) 0 (.inl rfl) hn b0 (by omega)).mono (by decide), (rto_htz (P := 300) (K := 0) 1 (.inr rfl) hn b0 (by omega)).mono (by decide)⟩
theorem yR_ht {s : Dyadic} {wp : Int} (im : Bool) (h2 : wp ≤ 300) (hs : qab s.toRat ≤ 1 / 1024) (hn : Nz 1017 s) : Hr 1400 (yR s im wp) := by
  have y := iy_ht h2 hs hn
  have z : Hc 1400 ((0, 0) : Cq) := ⟨.zero _, .zero _⟩
  unfold yR; cases im
  · exact ⟨y, z⟩
  · exact ⟨z, y⟩
theorem rmul_ord2 (z w : Rq) : Ord2 (rmul z w) := ⟨isub_ord (imul_ord _ _) (imul_ord _ _), iadd_ord (imul_ord _ _) (imul_ord _ _)⟩
theorem divn_ord (z : Cq) (j : Nat) (p : Int) : Ord (divn z j p) := iround_ord p (imul_ord _ _)
/-- All calls of one step of the row. -/
structure Stp (yD : D) (y o N : Rq) (R : Rq) (d e : Cq) (j : Nat) (wp : Int) : Prop where
  m : Sim Tryz.prog G0 false 129 [yD, rqD o] (rqD R)
  o1 : Sim Tryz.prog G0 false 128 [.int .i64 (j : Nat)] (dyD (dof (j : Nat) 0))
  o2 : Sim Tryz.prog G0 false 125 [dyD (dof (j : Nat) 0)] (cxD (dof (j : Nat) 0, dof (j : Nat) 0))
  d1 : Sim Tryz.prog G0 false 130 [cxD R.1, cxD (dof (j : Nat) 0, dof (j : Nat) 0), .int .i64 wp] (.tup [cxD d, .int .i64 0])
  d2 : Sim Tryz.prog G0 false 130 [cxD R.2, cxD (dof (j : Nat) 0, dof (j : Nat) 0), .int .i64 wp] (.tup [cxD e, .int .i64 0])
  a : Sim Tryz.prog G0 false 131 [rqD unR, rqD (d, e)] (rqD N)
  n : N = hst y o wp j
theorem stp_of {yD : D} {y o : Rq} {im : Bool} {w : Rat} {j : Nat} {wp : Int} (h1 : 80 ≤ wp) (h2 : wp ≤ 300) (hyD : RcR yD y.1 y.2) (hy : Hr 1400 y) (ho : Hz im o w) (hj : 0 < j) (hj2 : j ≤ 40) : ∃ N R d e, Stp yD y o N R d e j wp := by
  have oh : Hr 2400 o := ⟨ho.h1, ho.h2.mono (by decide)⟩
  have hR : Hr 3900 (rmul y o) := hy.rmul oh (by decide)
  have hJ : Ht 64 (dof (j : Int) 0) := Ht.i64 (by omega) (by omega)
  have hJc : Hc 64 (dof (j : Int) 0, dof (j : Int) 0) := ⟨hJ, hJ⟩
  have oJ : Ord ((dof (j : Int) 0, dof (j : Int) 0) : Cq) := by unfold Ord; grind
  have hD : ∀ z : Cq, Hc 3900 z → Hc 6000 (divn z j wp) := fun z hz => by
    have i : Hc 668 (iinv (dof (j : Int) 0, dof (j : Int) 0) wp) := (hJc.iinv (K := 300) (by omega)).mono (by decide)
    exact ((hz.imul i (c := 4600) (by decide)).iround (K := 300) (by omega)).mono (by decide)
  obtain ⟨O1, O2⟩ := rmul_ord2 y o
  have u1 : Hr 1 unR := ⟨⟨Ht.one, Ht.one⟩, ⟨.zero _, .zero _⟩⟩
  have k1 := hD _ hR.1
  have k2 := hD _ hR.2
  have ou : rof2 unR = unR := by unfold rof2; rw [rof_self (z := unR.1) (by show (1 : Dyadic) ≤ 1; decide), rof_self (z := unR.2) (by show (0 : Dyadic) ≤ 0; decide)]
  have od : rof2 (divn (rmul y o).1 j wp, divn (rmul y o).2 j wp) = (divn (rmul y o).1 j wp, divn (rmul y o).2 j wp) := by unfold rof2; rw [rof_self (divn_ord _ _ _), rof_self (divn_ord _ _ _)]
  exact ⟨hst y o wp j, rmul y o, divn (rmul y o).1 j wp, divn (rmul y o).2 j wp, {
    m := rtMul_is hyD (RqR.of ⟨oh.1.mono (by decide), oh.2.mono (by decide)⟩) (hy.mono (by decide)) (oh.mono (by decide)) rfl
    o1 := dofn_sim j (by omega) (by omega)
    o2 := rlOf_is (.of (hJ.mono (by decide))) (hJ.mono (by decide))
    d1 := rlDiv_is wp (.of (hR.1.mono (by decide))) (.of (hJc.mono (by decide))) (hR.1.mono (by decide)) (hJc.mono (by decide)) (by rw [rof_self O1, rof_self oJ]; exact divn_eq _ wp hj)
    d2 := rlDiv_is wp (.of (hR.2.mono (by decide))) (.of (hJc.mono (by decide))) (hR.2.mono (by decide)) (hJc.mono (by decide)) (by rw [rof_self O2, rof_self oJ]; exact divn_eq _ wp hj)
    a := rtAdd_is (RqR.of (u1.mono (by decide))) (RqR.of (z := (divn (rmul y o).1 j wp, divn (rmul y o).2 j wp)) ⟨k1.mono (by decide), k2.mono (by decide)⟩) (u1.mono (by decide)) (Hr.mono ⟨k1, k2⟩ (by decide)) (by rw [ou, od]; rfl)
    n := rfl }⟩
/-- One squaring. -/
theorem sqr_of {z : Rq} {wp : Int} (h2 : wp ≤ 300) (hz : Hr 8500 z) (ho : Ord2 z) : ∃ S N, Sim Tryz.prog G0 false 135 [rqD z] (rqD S) ∧ Sim Tryz.prog G0 false 134 [rqD S, .int .i64 wp] (rqD N) ∧ N = rround (rsq z) wp := by
  have hS : Hr 17002 (rsq z) := hz.rsq (by decide)
  have oS : rof2 (rsq z) = rsq z := by
    have a : Ord (ipow z.1 2) := ipow_ord 2 ho.1
    have b : Ord (ipow z.2 2) := ipow_ord 2 ho.2
    unfold rof2 rsq; dsimp only; rw [rof_self (isub_ord a b), rof_self (iadd_ord (imul_ord _ _) (imul_ord _ _))]
  have oz : rof2 z = z := by unfold rof2; rw [rof_self ho.1, rof_self ho.2]
  exact ⟨rsq z, rround (rsq z) wp, rtSquare_is (RqR.of ⟨hz.1.mono (by decide), hz.2.mono (by decide)⟩) (hz.mono (by decide)) (by rw [oz]), rtRound_is wp (RqR.of ⟨hS.1.mono (by decide), hS.2.mono (by decide)⟩) (hS.mono (by decide)) (by rw [oS]), rfl⟩
theorem sqn_ord {z : Rq} (wp : Int) (h : Ord2 z) : ∀ k, Ord2 (sqn wp k z)
  | 0 => h
  | k + 1 => by
    have i := sqn_ord wp h k
    exact ⟨iround_ord wp (isub_ord (ipow_ord 2 i.1) (ipow_ord 2 i.2)), iround_ord wp (iadd_ord (imul_ord _ _) (imul_ord _ _))⟩
set_option maxRecDepth 10000 in
set_option maxHeartbeats 8000000 in
theorem turnedR_is {x : D} {q s : Dyadic} {wp : Int} {r : Rq} (hx : DyR x q) (hq : Ht 20000 q) (h1 : 80 ≤ wp) (h2 : wp ≤ 300) (hs : q * dof 1 (-16) = s) (hb : qab s.toRat ≤ 1 / 1024) (hn : Nz 1017 s) (hr : trn (yR s false wp) false wp = r) : Sim Tryz.prog G0 false 69 [x, .bool false, .int .i64 wp] (rqD r) := by
  have sht : Ht 20200 s := hs ▸ hq.mul (Ht.cst (m := 1) (e := -16) (by decide)) (by decide)
  have s1 := dscale_sim (-16) hx
  rw [show min (max (-16) (-20000)) 20000 = -16 by decide, hs] at s1
  have s2 := rlOf_is (.of (sht.mono (b := 1048576) (by decide))) (sht.mono (by decide))
  have yh := iy_ht h2 hb hn
  have yy := yR_ht false h2 hb hn
  obtain ⟨⟨Y1, Y2⟩, hY⟩ : ∃ Y, iround (s, s) wp = Y := ⟨_, rfl⟩
  have s3 := rlRound_is (r := (Y1, Y2)) wp (z := (s, s)) (.of ⟨sht.mono (by decide), sht.mono (by decide)⟩) ⟨sht.mono (by decide), sht.mono (by decide)⟩ (by rw [rof_self (show Ord (s, s) by unfold Ord; grind)]; exact hY)
  have eY : yR s false wp = ((Y1, Y2), (0, 0)) := by unfold yR; rw [hY]; rfl
  rw [hY] at yh
  have hyD : RcR (D.agg [.bool (zneg (dman Y1)), sl (ofN (dman Y1).natAbs), .int .i64 (dexp Y1), .bool (zneg (dman Y2)), sl (ofN (dman Y2).natAbs), .int .i64 (dexp Y2), .bool false, sl [], .int .i64 0, .bool false, sl [], .int .i64 0]) (yR s false wp).1 (yR s false wp).2 := by rw [eY]; exact RcR.mk (.mk (.of (yh.1.mono (by decide))) (.of (yh.2.mono (by decide)))) (.mk dy0 dy0)
  have one : Sim Tryz.prog G0 false 128 [.int .i64 1] (dyD 1) := dofn_sim 1 (by decide) (by decide)
  have two : Sim Tryz.prog G0 false 128 [.int .i64 2] (dyD (dof 2 0)) := dofn_sim 2 (by decide) (by decide)
  have s5 := rtOf_is (c := (1, 0)) (CxR.mk (.of (Ht.one.mono (show 1 ≤ 1048576 by decide))) dy0) ⟨Ht.one.mono (by decide), .zero _⟩
  have he := (ep_many h1 (show wp ≤ 4000 by omega)).2
  have e0 := ep_pos wp
  obtain ⟨T, hT⟩ : ∃ T : Nat, T = trnT wp := ⟨_, rfl⟩
  have hTw : wp.tdiv 10 + 2 = ((T : Nat) : Int) := by rw [hT]; unfold trnT; rw [Int.tdiv_eq_ediv_of_nonneg (by omega)]; omega
  have T1 : 2 ≤ T := by rw [hT]; unfold trnT; omega
  have T2 : T ≤ 32 := by rw [hT]; exact trnT_le h2
  have hz1 : Hz false unR (1 / 4 * ep wp) := Hz.one false (by grind)
  have hall := hrn_hz (im := false) (P := 300) hb hn (by grind) (by omega) (by omega) T (by omega) hz1
  obtain ⟨F, hFe⟩ : ∃ F, hrn (yR s false wp) wp T unR = F := ⟨_, rfl⟩
  rw [hFe] at hall
  have hF : Hr 2400 F := ⟨hall.h1, hall.h2.mono (by decide)⟩
  have oF : Ord2 F := ⟨q_le.1 hall.b1.ord, q_le.1 hall.b2.ord⟩
  have rh := trnR_ht (show 1 ≤ wp by omega) h2
  have rr : Hc 400 (-trnR wp, trnR wp) := ⟨rh.neg, rh⟩
  have oR : Ord (-trnR wp, trnR wp) := by have := dof1_pos (1 - 10 * ((trnT wp : Int) + 1)); unfold Ord trnR; dsimp only; grind
  obtain ⟨G, hG⟩ : ∃ G, addRest F false (trnR wp) = G := ⟨_, rfl⟩
  have sA : Sim Tryz.prog G0 false 133 [cxD F.1, cxD (-trnR wp, trnR wp)] (cxD G.1) := rlAdd_is (.of (hF.1.mono (by decide))) (.of (rr.mono (by decide))) (hF.1.mono (by decide)) (rr.mono (by decide)) (by rw [rof_self oF.1, rof_self oR]; exact congrArg Prod.fst hG)
  have eG : G.2 = F.2 := (congrArg Prod.snd hG).symm
  have e2 : dof 2 0 * dof 1 (min (max (-10 * (((T : Nat) : Int) + 1)) (-20000)) 20000) = trnR wp := by
    rw [show dof 2 0 = dof 1 1 by decide, dof1_mul]; unfold trnR; rw [← hT]; congr 1; omega
  have s6 := dscale_sim (-10 * (((T : Nat) : Int) + 1)) (DyR.of ((Ht.cst (m := 2) (e := 0) (by decide)).mono (b := 1048576) (by decide)))
  rw [e2] at s6
  have s7 := about_is (rh.mono (b := 1048576) (by decide))
  have hGt : G = trn0 (yR s false wp) false wp := by rw [← hG, ← hFe, hT]; rfl
  have hh := trn_ht false h1 h2 hb hn
  rw [← hGt] at hh
  have oG : Ord2 G := by
    have b := trn0_bx false (show 1 ≤ wp by omega) (show wp ≤ 4000 by omega) hb
    rw [hGt]; exact ⟨q_le.1 b.1.ord, q_le.1 b.2.ord⟩
  have hr' : sqn wp 16 G = r := by rw [hGt]; exact hr
  have stp : ∀ (o : Rq) (j : Nat), Hz false o (1 / 4 * ep wp) → 0 < j → j ≤ 40 → ∃ N R d e, Stp (D.agg [.bool (zneg (dman Y1)), sl (ofN (dman Y1).natAbs), .int .i64 (dexp Y1), .bool (zneg (dman Y2)), sl (ofN (dman Y2).natAbs), .int .i64 (dexp Y2), .bool false, sl [], .int .i64 0, .bool false, sl [], .int .i64 0]) (yR s false wp) o N R d e j wp := fun o j a b c => stp_of h1 h2 hyD yy a b c
  have nxt : ∀ (o : Rq) (j : Nat), Hz false o (1 / 4 * ep wp) → 0 < j → j ≤ 40 → Hz false (hst (yR s false wp) o wp j) (1 / 4 * ep wp) := fun o j a b c => hst_hz (P := 300) hb hn a b c (by grind) (by omega) (by omega)
  clear hall hyD hs hq sht hGt hr yy eY hY yh hT
  generalize trnR wp = rs at *
  have kx := hx
  obtain ⟨b0, l0, f0, hl0, g1, g2, g3⟩ := hx
  refine sim_mk tab_ok Tryz.func69 rfl (by kernel_rfl) rfl ⟨Nat.le_of_ble_eq_true rfl, Nat.le_of_ble_eq_true rfl⟩ ?_
  repeat' ((conv => whnf); first
    | refine RegE.early (Cd.mk (show regOk _ _ _ _ = true by kernel_rfl) ?_)
    | refine Cd.mk rfl ?_)
  refine wp_scope tab_ok 0 rfl [1, 2, 6, 8, 9, 10, 11, 12] [6, 8, 10, 11] (fun m xs h => ∃ (j : Nat) (o : Rq), m = j ∧ 0 < j ∧ j ≤ 32 ∧ Hz false o (1 / 4 * ep wp) ∧ hrn (yR s false wp) wp j o = F ∧ xs = [.d (.bool false), .d (.int .i64 wp), .ptr 6 0, .ptr 8 0, .d (.int .i64 (T : Nat)), .ptr 10 0, .ptr 11 0, .d (.int .i64 (j : Nat))] ∧ h = [(11, false, rqCe unR), (10, false, rqCe o), (8, false, (dyC Y1 ++ (dyC Y2 ++ [.d (.bool false), .d .nil, .d (.int .i64 0), .d (.bool false), .d .nil, .d (.int .i64 0)]))), (6, false, zeA ++ zeA ++ zeA ++ zeA)]) ?_ ?_
  · obtain ⟨N, R, d, e, S⟩ := stp unR T hz1 (by omega) (by omega)
    have hN := S.n
    have hz2 := nxt unR T hz1 (by omega) (by omega)
    rw [← hN] at hz2
    obtain ⟨c1, c2, c3, c4, c5, c6, c7⟩ := S
    have hF2 : hrn (yR s false wp) wp (T - 1) N = F := by
      rw [hN, ← hFe, show T = T - 1 + 1 by omega]; rfl
    clear hN c7 stp nxt
    obtain ⟨⟨_, _⟩, ⟨_, _⟩⟩ := N
    obtain ⟨⟨_, _⟩, ⟨_, _⟩⟩ := R
    obtain ⟨_, _⟩ := d
    obtain ⟨_, _⟩ := e
    repeat' ((conv => whnf); first
      | with_reducible refine CallX.data ?_
      | with_reducible refine Br.dec (fun _ => ?_) (fun h => absurd (by omega) h)
      | refine CallE.mk _ _ (s1) ?_
      | refine CallE.mk _ _ (s2) ?_
      | refine CallE.mk _ _ (s3) ?_
      | refine CallE.mk _ _ (one) ?_
      | refine CallE.mk _ _ (s5) ?_
      | refine CallE.mk _ _ (c1) ?_
      | refine CallE.mk _ _ (c2) ?_
      | refine CallE.mk _ _ (c3) ?_
      | refine CallE.mk _ _ (c4) ?_
      | refine CallE.mk _ _ (c5) ?_
      | refine CallE.mk _ _ (c6) ?_
      | refine RegE.early (Cd.mk (show regOk _ _ _ _ = true by kernel_rfl) ?_)
      | refine Cd.mk rfl ?_
      | refine Br.f ?_
      | refine NthE.mk _ rfl ?_
      | (refine TkE.fL ?_; (conv => whnf); fail_if_success (show forceL _ _))
      | ((with_reducible refine EqE.idW ?_); first | refine EqE.mk ((T : Nat) : Int) (by rw [hTw]; exact wrap_in (by omega) (by omega)) ?_ | refine EqE.mk ((T - 1 : Nat) : Int) (by rw [wrap_in (by omega) (by omega)]; omega) ?_ | refine EqE.mk _ (wrap_in (by omega) (by omega)) ?_)
      | ((with_reducible refine EqE.idS ?_); (refine EqE.fP ?_; (conv => whnf); fail_if_success (show forceL _ _)))
      | refine Cd.mk (Nat.le_of_ble_eq_true rfl) ?_
      | refine Cd.mk (by first | omega | (simp only [length_limbs, length_la]; omega)) ?_)
    exact ⟨_, _, _, ⟨.inl rfl, rfl, rfl, by first | rfl | (repeat first | exact all_nil _ | refine all_la _ _ _ _ _ ?_)⟩, T - 1, _, rfl, by omega, by omega, hz2, hF2, rfl, rfl⟩
  · rintro j xs h ⟨_, o, rfl, hj0, hj, ho, hF2, rfl, rfl⟩
    obtain ⟨N, R, d, e, S⟩ := stp o j ho hj0 (by omega)
    have hN := S.n
    have hz2 := nxt o j ho hj0 (by omega)
    rw [← hN] at hz2
    obtain ⟨c1, c2, c3, c4, c5, c6, c7⟩ := S
    have hF3 : hrn (yR s false wp) wp (j - 1) N = F := by
      rw [hN, ← hF2, show j = j - 1 + 1 by omega]; rfl
    clear hN c7 stp nxt
    obtain ⟨⟨_, _⟩, ⟨_, _⟩⟩ := R
    obtain ⟨_, _⟩ := d
    obtain ⟨_, _⟩ := e
    obtain ⟨⟨_, _⟩, ⟨_, _⟩⟩ := o
    by_cases hlt : 1 < j
    · obtain ⟨⟨_, _⟩, ⟨_, _⟩⟩ := N
      repeat' ((conv => whnf); first
        | with_reducible refine CallX.data ?_
        | with_reducible refine Br.dec (fun _ => ?_) (fun h => absurd (by omega) h)
        | refine CallE.mk _ _ (c1) ?_
        | refine CallE.mk _ _ (c2) ?_
        | refine CallE.mk _ _ (c3) ?_
        | refine CallE.mk _ _ (c4) ?_
        | refine CallE.mk _ _ (c5) ?_
        | refine CallE.mk _ _ (c6) ?_
        | refine RegE.early (Cd.mk (show regOk _ _ _ _ = true by kernel_rfl) ?_)
        | refine Cd.mk rfl ?_
        | refine NthE.mk _ rfl ?_
        | (refine TkE.fL ?_; (conv => whnf); fail_if_success (show forceL _ _))
        | refine LoopEnd.go _ _ ⟨.inl rfl, rfl, rfl, by first | rfl | (repeat first | exact all_nil _ | refine all_la _ _ _ _ _ ?_)⟩ ?_
        | ((with_reducible refine EqE.idW ?_); refine EqE.mk ((j - 1 : Nat) : Int) (by rw [wrap_in (by omega) (by omega)]; omega) ?_)
        | ((with_reducible refine EqE.idS ?_); (refine EqE.fP ?_; (conv => whnf); fail_if_success (show forceL _ _)))
        | refine Cd.mk (Nat.le_of_ble_eq_true rfl) ?_)
      exact ⟨_, ⟨j - 1, _, rfl, by omega, by omega, hz2, hF3, rfl, rfl⟩, by omega⟩
    · have hj1 : j = 1 := by omega
      subst hj1
      have hNF : N = F := hF3
      subst hNF
      obtain ⟨⟨N1, N2⟩, ⟨N3, N4⟩⟩ := N
      obtain ⟨⟨G1, G2⟩, ⟨G3, G4⟩⟩ := G
      obtain ⟨rfl, rfl⟩ := Prod.mk.inj eG
      repeat' ((conv => whnf); first
        | with_reducible refine CallX.data ?_
        | with_reducible refine Br.dec (fun h => absurd h (by omega)) (fun _ => ?_)
        | refine CallE.mk _ _ (c1) ?_
        | refine CallE.mk _ _ (c2) ?_
        | refine CallE.mk _ _ (c3) ?_
        | refine CallE.mk _ _ (c4) ?_
        | refine CallE.mk _ _ (c5) ?_
        | refine CallE.mk _ _ (c6) ?_
        | refine CallE.mk _ _ (two) ?_
        | refine CallE.mk _ _ (s6) ?_
        | refine CallE.mk _ _ (s7) ?_
        | refine CallE.mk _ _ (sA) ?_
        | refine RegE.early (Cd.mk (show regOk _ _ _ _ = true by kernel_rfl) ?_)
        | refine Cd.mk rfl ?_
        | refine Br.f ?_
        | refine NthE.mk _ rfl ?_
        | (refine TkE.fL ?_; (conv => whnf); fail_if_success (show forceL _ _))
        | ((with_reducible refine EqE.idW ?_); first | refine EqE.mk ((1 - 1 : Nat) : Int) (by decide) ?_ | refine EqE.mk (((T : Nat) : Int) + 1) (wrap_in (by omega) (by omega)) ?_ | refine EqE.mk (-10 * (((T : Nat) : Int) + 1)) (wrap_in (by omega) (by omega)) ?_)
        | ((with_reducible refine EqE.idS ?_); (refine EqE.fP ?_; (conv => whnf); fail_if_success (show forceL _ _)))
        | refine Cd.mk (Nat.le_of_ble_eq_true rfl) ?_)
      refine ⟨[], [2, 6, 10, 86], [6, 10], fun m xs h => ∃ (k : Nat), m = 16 - k ∧ k ≤ 16 ∧ xs = [.d (.int .i64 wp), .ptr 6 0, .ptr 10 0, .d (.int .i64 (k : Nat))] ∧ h = [(10, false, rqCe (sqn wp k ((G1, G2), (G3, G4)))), (6, false, zeA ++ zeA ++ zeA ++ zeA)],
        ⟨_, _, _, ⟨.inl rfl, rfl, rfl, by first | rfl | (repeat first | exact all_nil _ | refine all_la _ _ _ _ _ ?_)⟩, 0, rfl, by omega, rfl, rfl⟩, ?_⟩
      rintro m xs h ⟨k, rfl, hk, rfl, rfl⟩
      by_cases hk2 : k < 16
      · have hk3 := hh k (by omega)
        rw [if_pos (by omega)] at hk3
        have o2 := sqn_ord wp oG k
        obtain ⟨S2, M2, x1, x2, x3⟩ := sqr_of h2 hk3 o2
        have x4 : M2 = sqn wp (k + 1) ((G1, G2), (G3, G4)) := x3
        clear x3
        generalize hk4 : sqn wp (k + 1) ((G1, G2), (G3, G4)) = Z2 at *
        subst x4
        generalize sqn wp k ((G1, G2), (G3, G4)) = Z at *
        obtain ⟨⟨_, _⟩, ⟨_, _⟩⟩ := Z
        obtain ⟨⟨_, _⟩, ⟨_, _⟩⟩ := S2
        obtain ⟨⟨_, _⟩, ⟨_, _⟩⟩ := M2
        repeat' ((conv => whnf); first
          | with_reducible refine CallX.data ?_
          | with_reducible refine Br.dec (fun _ => ?_) (fun h => absurd (by omega) h)
          | refine CallE.mk _ _ (x1) ?_
          | refine CallE.mk _ _ (x2) ?_
          | refine RegE.early (Cd.mk (show regOk _ _ _ _ = true by kernel_rfl) ?_)
          | refine Cd.mk rfl ?_
          | (refine TkE.fL ?_; (conv => whnf); fail_if_success (show forceL _ _))
          | refine LoopEnd.go _ _ ⟨.inl rfl, rfl, rfl, by first | rfl | (repeat first | exact all_nil _ | refine all_la _ _ _ _ _ ?_)⟩ ?_
          | ((with_reducible refine EqE.idW ?_); refine EqE.mk ((k + 1 : Nat) : Int) (by rw [wrap_in (by omega) (by omega)]; omega) ?_)
          | ((with_reducible refine EqE.idS ?_); (refine EqE.fP ?_; (conv => whnf); fail_if_success (show forceL _ _)))
          | refine Cd.mk (Nat.le_of_ble_eq_true rfl) ?_)
        exact ⟨_, ⟨k + 1, rfl, by omega, rfl, by rw [hk4]; rfl⟩, by omega⟩
      · have hk16 : k = 16 := by omega
        subst hk16
        rw [hr']
        obtain ⟨⟨_, _⟩, ⟨_, _⟩⟩ := r
        repeat' ((conv => whnf); first
          | with_reducible refine Br.dec (fun h => absurd h (by omega)) (fun _ => ?_)
          | refine RegE.early (Cd.mk (show regOk _ _ _ _ = true by kernel_rfl) ?_)
          | refine Cd.mk rfl ?_
          | (refine TkE.fL ?_; (conv => whnf); fail_if_success (show forceL _ _))
          | refine Res.mk ?_
          | ((with_reducible refine EqE.idS ?_); (refine EqE.fP ?_; (conv => whnf); fail_if_success (show forceL _ _)))
          | refine Cd.mk (Nat.le_of_ble_eq_true rfl) ?_)
        rfl
set_option maxRecDepth 10000 in
set_option maxHeartbeats 8000000 in
theorem turnedI_is {x : D} {q s : Dyadic} {wp : Int} {r : Rq} (hx : DyR x q) (hq : Ht 20000 q) (h1 : 80 ≤ wp) (h2 : wp ≤ 300) (hs : q * dof 1 (-16) = s) (hb : qab s.toRat ≤ 1 / 1024) (hn : Nz 1017 s) (hr : trn (yR s true wp) true wp = r) : Sim Tryz.prog G0 false 69 [x, .bool true, .int .i64 wp] (rqD r) := by
  have sht : Ht 20200 s := hs ▸ hq.mul (Ht.cst (m := 1) (e := -16) (by decide)) (by decide)
  have s1 := dscale_sim (-16) hx
  rw [show min (max (-16) (-20000)) 20000 = -16 by decide, hs] at s1
  have s2 := rlOf_is (.of (sht.mono (b := 1048576) (by decide))) (sht.mono (by decide))
  have yh := iy_ht h2 hb hn
  have yy := yR_ht true h2 hb hn
  obtain ⟨⟨Y1, Y2⟩, hY⟩ : ∃ Y, iround (s, s) wp = Y := ⟨_, rfl⟩
  have s3 := rlRound_is (r := (Y1, Y2)) wp (z := (s, s)) (.of ⟨sht.mono (by decide), sht.mono (by decide)⟩) ⟨sht.mono (by decide), sht.mono (by decide)⟩ (by rw [rof_self (show Ord (s, s) by unfold Ord; grind)]; exact hY)
  have eY : yR s true wp = ((0, 0), (Y1, Y2)) := by unfold yR; rw [hY]; rfl
  rw [hY] at yh
  have hyD : RcR (D.agg [.bool false, sl [], .int .i64 0, .bool false, sl [], .int .i64 0, .bool (zneg (dman Y1)), sl (ofN (dman Y1).natAbs), .int .i64 (dexp Y1), .bool (zneg (dman Y2)), sl (ofN (dman Y2).natAbs), .int .i64 (dexp Y2)]) (yR s true wp).1 (yR s true wp).2 := by rw [eY]; exact RcR.mk (.mk dy0 dy0) (.mk (.of (yh.1.mono (by decide))) (.of (yh.2.mono (by decide))))
  have one : Sim Tryz.prog G0 false 128 [.int .i64 1] (dyD 1) := dofn_sim 1 (by decide) (by decide)
  have two : Sim Tryz.prog G0 false 128 [.int .i64 2] (dyD (dof 2 0)) := dofn_sim 2 (by decide) (by decide)
  have s5 := rtOf_is (c := (1, 0)) (CxR.mk (.of (Ht.one.mono (show 1 ≤ 1048576 by decide))) dy0) ⟨Ht.one.mono (by decide), .zero _⟩
  have he := (ep_many h1 (show wp ≤ 4000 by omega)).2
  have e0 := ep_pos wp
  obtain ⟨T, hT⟩ : ∃ T : Nat, T = trnT wp := ⟨_, rfl⟩
  have hTw : wp.tdiv 10 + 2 = ((T : Nat) : Int) := by rw [hT]; unfold trnT; rw [Int.tdiv_eq_ediv_of_nonneg (by omega)]; omega
  have T1 : 2 ≤ T := by rw [hT]; unfold trnT; omega
  have T2 : T ≤ 32 := by rw [hT]; exact trnT_le h2
  have hz1 : Hz true unR (1 / 4 * ep wp) := Hz.one true (by grind)
  have hall := hrn_hz (im := true) (P := 300) hb hn (by grind) (by omega) (by omega) T (by omega) hz1
  obtain ⟨F, hFe⟩ : ∃ F, hrn (yR s true wp) wp T unR = F := ⟨_, rfl⟩
  rw [hFe] at hall
  have hF : Hr 2400 F := ⟨hall.h1, hall.h2.mono (by decide)⟩
  have oF : Ord2 F := ⟨q_le.1 hall.b1.ord, q_le.1 hall.b2.ord⟩
  have rh := trnR_ht (show 1 ≤ wp by omega) h2
  have rr : Hc 400 (-trnR wp, trnR wp) := ⟨rh.neg, rh⟩
  have oR : Ord (-trnR wp, trnR wp) := by have := dof1_pos (1 - 10 * ((trnT wp : Int) + 1)); unfold Ord trnR; dsimp only; grind
  obtain ⟨G, hG⟩ : ∃ G, addRest F true (trnR wp) = G := ⟨_, rfl⟩
  have sA : Sim Tryz.prog G0 false 131 [rqD F, rqD ((-trnR wp, trnR wp), (-trnR wp, trnR wp))] (rqD G) := rtAdd_is (RqR.of (hF.mono (by decide))) (RqR.of (z := ((-trnR wp, trnR wp), (-trnR wp, trnR wp))) ⟨rr.mono (by decide), rr.mono (by decide)⟩) (hF.mono (by decide)) (Hr.mono ⟨rr, rr⟩ (by decide)) (by rw [show rof2 F = F by unfold rof2; rw [rof_self oF.1, rof_self oF.2], show rof2 ((-trnR wp, trnR wp), (-trnR wp, trnR wp)) = ((-trnR wp, trnR wp), (-trnR wp, trnR wp)) by unfold rof2; rw [rof_self oR]]; exact hG)
  have e2 : dof 2 0 * dof 1 (min (max (-10 * (((T : Nat) : Int) + 1)) (-20000)) 20000) = trnR wp := by
    rw [show dof 2 0 = dof 1 1 by decide, dof1_mul]; unfold trnR; rw [← hT]; congr 1; omega
  have s6 := dscale_sim (-10 * (((T : Nat) : Int) + 1)) (DyR.of ((Ht.cst (m := 2) (e := 0) (by decide)).mono (b := 1048576) (by decide)))
  rw [e2] at s6
  have s7 := about_is (rh.mono (b := 1048576) (by decide))
  have hGt : G = trn0 (yR s true wp) true wp := by rw [← hG, ← hFe, hT]; rfl
  have hh := trn_ht true h1 h2 hb hn
  rw [← hGt] at hh
  have oG : Ord2 G := by
    have b := trn0_bx true (show 1 ≤ wp by omega) (show wp ≤ 4000 by omega) hb
    rw [hGt]; exact ⟨q_le.1 b.1.ord, q_le.1 b.2.ord⟩
  have hr' : sqn wp 16 G = r := by rw [hGt]; exact hr
  have stp : ∀ (o : Rq) (j : Nat), Hz true o (1 / 4 * ep wp) → 0 < j → j ≤ 40 → ∃ N R d e, Stp (D.agg [.bool false, sl [], .int .i64 0, .bool false, sl [], .int .i64 0, .bool (zneg (dman Y1)), sl (ofN (dman Y1).natAbs), .int .i64 (dexp Y1), .bool (zneg (dman Y2)), sl (ofN (dman Y2).natAbs), .int .i64 (dexp Y2)]) (yR s true wp) o N R d e j wp := fun o j a b c => stp_of h1 h2 hyD yy a b c
  have nxt : ∀ (o : Rq) (j : Nat), Hz true o (1 / 4 * ep wp) → 0 < j → j ≤ 40 → Hz true (hst (yR s true wp) o wp j) (1 / 4 * ep wp) := fun o j a b c => hst_hz (P := 300) hb hn a b c (by grind) (by omega) (by omega)
  clear hall hyD hs hq sht hGt hr yy eY hY yh hT
  generalize trnR wp = rs at *
  have kx := hx
  obtain ⟨b0, l0, f0, hl0, g1, g2, g3⟩ := hx
  refine sim_mk tab_ok Tryz.func69 rfl (by kernel_rfl) rfl ⟨Nat.le_of_ble_eq_true rfl, Nat.le_of_ble_eq_true rfl⟩ ?_
  repeat' ((conv => whnf); first
    | refine RegE.early (Cd.mk (show regOk _ _ _ _ = true by kernel_rfl) ?_)
    | refine Cd.mk rfl ?_)
  refine wp_scope tab_ok 0 rfl [1, 2, 6, 8, 9, 10, 11, 12] [6, 8, 10, 11] (fun m xs h => ∃ (j : Nat) (o : Rq), m = j ∧ 0 < j ∧ j ≤ 32 ∧ Hz true o (1 / 4 * ep wp) ∧ hrn (yR s true wp) wp j o = F ∧ xs = [.d (.bool true), .d (.int .i64 wp), .ptr 6 0, .ptr 8 0, .d (.int .i64 (T : Nat)), .ptr 10 0, .ptr 11 0, .d (.int .i64 (j : Nat))] ∧ h = [(11, false, rqCe unR), (10, false, rqCe o), (8, false, ([.d (.bool false), .d .nil, .d (.int .i64 0), .d (.bool false), .d .nil, .d (.int .i64 0)] ++ (dyC Y1 ++ dyC Y2))), (6, false, zeA ++ zeA ++ zeA ++ zeA)]) ?_ ?_
  · obtain ⟨N, R, d, e, S⟩ := stp unR T hz1 (by omega) (by omega)
    have hN := S.n
    have hz2 := nxt unR T hz1 (by omega) (by omega)
    rw [← hN] at hz2
    obtain ⟨c1, c2, c3, c4, c5, c6, c7⟩ := S
    have hF2 : hrn (yR s true wp) wp (T - 1) N = F := by
      rw [hN, ← hFe, show T = T - 1 + 1 by omega]; rfl
    clear hN c7 stp nxt
    obtain ⟨⟨_, _⟩, ⟨_, _⟩⟩ := N
    obtain ⟨⟨_, _⟩, ⟨_, _⟩⟩ := R
    obtain ⟨_, _⟩ := d
    obtain ⟨_, _⟩ := e
    repeat' ((conv => whnf); first
      | with_reducible refine CallX.data ?_
      | with_reducible refine Br.dec (fun _ => ?_) (fun h => absurd (by omega) h)
      | refine CallE.mk _ _ (s1) ?_
      | refine CallE.mk _ _ (s2) ?_
      | refine CallE.mk _ _ (s3) ?_
      | refine CallE.mk _ _ (one) ?_
      | refine CallE.mk _ _ (s5) ?_
      | refine CallE.mk _ _ (c1) ?_
      | refine CallE.mk _ _ (c2) ?_
      | refine CallE.mk _ _ (c3) ?_
      | refine CallE.mk _ _ (c4) ?_
      | refine CallE.mk _ _ (c5) ?_
      | refine CallE.mk _ _ (c6) ?_
      | refine RegE.early (Cd.mk (show regOk _ _ _ _ = true by kernel_rfl) ?_)
      | refine Cd.mk rfl ?_
      | refine Br.t ?_
      | refine NthE.mk _ rfl ?_
      | (refine TkE.fL ?_; (conv => whnf); fail_if_success (show forceL _ _))
      | ((with_reducible refine EqE.idW ?_); first | refine EqE.mk ((T : Nat) : Int) (by rw [hTw]; exact wrap_in (by omega) (by omega)) ?_ | refine EqE.mk ((T - 1 : Nat) : Int) (by rw [wrap_in (by omega) (by omega)]; omega) ?_ | refine EqE.mk _ (wrap_in (by omega) (by omega)) ?_)
      | ((with_reducible refine EqE.idS ?_); (refine EqE.fP ?_; (conv => whnf); fail_if_success (show forceL _ _)))
      | refine Cd.mk (Nat.le_of_ble_eq_true rfl) ?_
      | refine Cd.mk (by first | omega | (simp only [length_limbs, length_la]; omega)) ?_)
    exact ⟨_, _, _, ⟨.inl rfl, rfl, rfl, by first | rfl | (repeat first | exact all_nil _ | refine all_la _ _ _ _ _ ?_)⟩, T - 1, _, rfl, by omega, by omega, hz2, hF2, rfl, rfl⟩
  · rintro j xs h ⟨_, o, rfl, hj0, hj, ho, hF2, rfl, rfl⟩
    obtain ⟨N, R, d, e, S⟩ := stp o j ho hj0 (by omega)
    have hN := S.n
    have hz2 := nxt o j ho hj0 (by omega)
    rw [← hN] at hz2
    obtain ⟨c1, c2, c3, c4, c5, c6, c7⟩ := S
    have hF3 : hrn (yR s true wp) wp (j - 1) N = F := by
      rw [hN, ← hF2, show j = j - 1 + 1 by omega]; rfl
    clear hN c7 stp nxt
    obtain ⟨⟨_, _⟩, ⟨_, _⟩⟩ := R
    obtain ⟨_, _⟩ := d
    obtain ⟨_, _⟩ := e
    obtain ⟨⟨_, _⟩, ⟨_, _⟩⟩ := o
    by_cases hlt : 1 < j
    · obtain ⟨⟨_, _⟩, ⟨_, _⟩⟩ := N
      repeat' ((conv => whnf); first
        | with_reducible refine CallX.data ?_
        | with_reducible refine Br.dec (fun _ => ?_) (fun h => absurd (by omega) h)
        | refine CallE.mk _ _ (c1) ?_
        | refine CallE.mk _ _ (c2) ?_
        | refine CallE.mk _ _ (c3) ?_
        | refine CallE.mk _ _ (c4) ?_
        | refine CallE.mk _ _ (c5) ?_
        | refine CallE.mk _ _ (c6) ?_
        | refine RegE.early (Cd.mk (show regOk _ _ _ _ = true by kernel_rfl) ?_)
        | refine Cd.mk rfl ?_
        | refine NthE.mk _ rfl ?_
        | (refine TkE.fL ?_; (conv => whnf); fail_if_success (show forceL _ _))
        | refine LoopEnd.go _ _ ⟨.inl rfl, rfl, rfl, by first | rfl | (repeat first | exact all_nil _ | refine all_la _ _ _ _ _ ?_)⟩ ?_
        | ((with_reducible refine EqE.idW ?_); refine EqE.mk ((j - 1 : Nat) : Int) (by rw [wrap_in (by omega) (by omega)]; omega) ?_)
        | ((with_reducible refine EqE.idS ?_); (refine EqE.fP ?_; (conv => whnf); fail_if_success (show forceL _ _)))
        | refine Cd.mk (Nat.le_of_ble_eq_true rfl) ?_)
      exact ⟨_, ⟨j - 1, _, rfl, by omega, by omega, hz2, hF3, rfl, rfl⟩, by omega⟩
    · have hj1 : j = 1 := by omega
      subst hj1
      have hNF : N = F := hF3
      subst hNF
      obtain ⟨⟨N1, N2⟩, ⟨N3, N4⟩⟩ := N
      obtain ⟨⟨G1, G2⟩, ⟨G3, G4⟩⟩ := G
      
      repeat' ((conv => whnf); first
        | with_reducible refine CallX.data ?_
        | with_reducible refine Br.dec (fun h => absurd h (by omega)) (fun _ => ?_)
        | refine CallE.mk _ _ (c1) ?_
        | refine CallE.mk _ _ (c2) ?_
        | refine CallE.mk _ _ (c3) ?_
        | refine CallE.mk _ _ (c4) ?_
        | refine CallE.mk _ _ (c5) ?_
        | refine CallE.mk _ _ (c6) ?_
        | refine CallE.mk _ _ (two) ?_
        | refine CallE.mk _ _ (s6) ?_
        | refine CallE.mk _ _ (s7) ?_
        | refine CallE.mk _ _ (sA) ?_
        | refine RegE.early (Cd.mk (show regOk _ _ _ _ = true by kernel_rfl) ?_)
        | refine Cd.mk rfl ?_
        | refine Br.t ?_
        | refine NthE.mk _ rfl ?_
        | (refine TkE.fL ?_; (conv => whnf); fail_if_success (show forceL _ _))
        | ((with_reducible refine EqE.idW ?_); first | refine EqE.mk ((1 - 1 : Nat) : Int) (by decide) ?_ | refine EqE.mk (((T : Nat) : Int) + 1) (wrap_in (by omega) (by omega)) ?_ | refine EqE.mk (-10 * (((T : Nat) : Int) + 1)) (wrap_in (by omega) (by omega)) ?_)
        | ((with_reducible refine EqE.idS ?_); (refine EqE.fP ?_; (conv => whnf); fail_if_success (show forceL _ _)))
        | refine Cd.mk (Nat.le_of_ble_eq_true rfl) ?_)
      refine ⟨[], [2, 6, 10, 86], [6, 10], fun m xs h => ∃ (k : Nat), m = 16 - k ∧ k ≤ 16 ∧ xs = [.d (.int .i64 wp), .ptr 6 0, .ptr 10 0, .d (.int .i64 (k : Nat))] ∧ h = [(10, false, rqCe (sqn wp k ((G1, G2), (G3, G4)))), (6, false, zeA ++ zeA ++ zeA ++ zeA)],
        ⟨_, _, _, ⟨.inl rfl, rfl, rfl, by first | rfl | (repeat first | exact all_nil _ | refine all_la _ _ _ _ _ ?_)⟩, 0, rfl, by omega, rfl, rfl⟩, ?_⟩
      rintro m xs h ⟨k, rfl, hk, rfl, rfl⟩
      by_cases hk2 : k < 16
      · have hk3 := hh k (by omega)
        rw [if_pos (by omega)] at hk3
        have o2 := sqn_ord wp oG k
        obtain ⟨S2, M2, x1, x2, x3⟩ := sqr_of h2 hk3 o2
        have x4 : M2 = sqn wp (k + 1) ((G1, G2), (G3, G4)) := x3
        clear x3
        generalize hk4 : sqn wp (k + 1) ((G1, G2), (G3, G4)) = Z2 at *
        subst x4
        generalize sqn wp k ((G1, G2), (G3, G4)) = Z at *
        obtain ⟨⟨_, _⟩, ⟨_, _⟩⟩ := Z
        obtain ⟨⟨_, _⟩, ⟨_, _⟩⟩ := S2
        obtain ⟨⟨_, _⟩, ⟨_, _⟩⟩ := M2
        repeat' ((conv => whnf); first
          | with_reducible refine CallX.data ?_
          | with_reducible refine Br.dec (fun _ => ?_) (fun h => absurd (by omega) h)
          | refine CallE.mk _ _ (x1) ?_
          | refine CallE.mk _ _ (x2) ?_
          | refine RegE.early (Cd.mk (show regOk _ _ _ _ = true by kernel_rfl) ?_)
          | refine Cd.mk rfl ?_
          | (refine TkE.fL ?_; (conv => whnf); fail_if_success (show forceL _ _))
          | refine LoopEnd.go _ _ ⟨.inl rfl, rfl, rfl, by first | rfl | (repeat first | exact all_nil _ | refine all_la _ _ _ _ _ ?_)⟩ ?_
          | ((with_reducible refine EqE.idW ?_); refine EqE.mk ((k + 1 : Nat) : Int) (by rw [wrap_in (by omega) (by omega)]; omega) ?_)
          | ((with_reducible refine EqE.idS ?_); (refine EqE.fP ?_; (conv => whnf); fail_if_success (show forceL _ _)))
          | refine Cd.mk (Nat.le_of_ble_eq_true rfl) ?_)
        exact ⟨_, ⟨k + 1, rfl, by omega, rfl, by rw [hk4]; rfl⟩, by omega⟩
      · have hk16 : k = 16 := by omega
        subst hk16
        rw [hr']
        obtain ⟨⟨_, _⟩, ⟨_, _⟩⟩ := r
        repeat' ((conv => whnf); first
          | with_reducible refine Br.dec (fun h => absurd h (by omega)) (fun _ => ?_)
          | refine RegE.early (Cd.mk (show regOk _ _ _ _ = true by kernel_rfl) ?_)
          | refine Cd.mk rfl ?_
          | (refine TkE.fL ?_; (conv => whnf); fail_if_success (show forceL _ _))
          | refine Res.mk ?_
          | ((with_reducible refine EqE.idS ?_); (refine EqE.fP ?_; (conv => whnf); fail_if_success (show forceL _ _)))
          | refine Cd.mk (Nat.le_of_ble_eq_true rfl) ?_)
        rfl
end Go.Ev.Ar

namespace Go.Ev.Ar
open Go Go.Ev Go.Proofs

/- WHAT MAY BE ASKED -/
/-- Data of moderate size that means a number. -/
inductive DyS : D → Dyadic → Prop where
  | mk {b : Bool} {l : List UInt32} {e : Int} (hl : l.length ≤ 1000) (h1 : -20000 ≤ e) (h2 : e ≤ 20000) (hr : DyR (.agg [.bool b, sl l, .int .i64 e]) (dof (zv b l) e)) : DyS (.agg [.bool b, sl l, .int .i64 e]) (dof (zv b l) e)
theorem DyS.r {x : D} {q : Dyadic} (h : DyS x q) : DyR x q := by obtain ⟨_, _, _, hr⟩ := h; exact hr
/-- May a number be asked? -/
def smallP (q : Dyadic) : Bool := decide (-1000 ≤ dexp q) && decide (dabs q ≤ dof 64 0)
theorem esmall_is {x : D} {q : Dyadic} {t : Bool} (hx : DyS x q) (hq : Ht 100000 q) (ht : smallP q = t) : Sim Tryz.prog G0 true 121 [x] (.bool t) := by
  subst ht
  have hr := hx.r
  have c64 : Ht 164 (dof 64 0) := Ht.cst (by decide)
  have s1 := dabs_sim hr
  have s2 : Sim Tryz.prog G0 false 128 [.int .i64 64] (dyD (dof 64 0)) := dofn_sim 64 (by decide) (by decide)
  have s3 := dcmp_sim (DyR.of (hq.abs.mono (b := 1048576) (by decide))) (DyR.of (c64.mono (b := 1048576) (by decide))) (((hq.abs).sub (c64.mono (show 164 ≤ 100000 by decide)) (c := 100001) (by decide)).mono (by decide))
  obtain ⟨hl, h1, h2, _⟩ := hx
  rename_i b l e _
  have sM := dmake_sim e (.mk b l (by omega)) (Zt.of_len (b := b) (l := l) (h := 134217728) (show l.length ≤ 4194304 by omega) (by decide))
  rw [show min (max e (-20000)) 20000 = e by omega] at sM
  generalize dof (zv b l) e = q at *
  refine sim_mk tab_ok Tryz.func121 rfl (by kernel_rfl) rfl ⟨Nat.le_of_ble_eq_true rfl, Nat.le_of_ble_eq_true rfl⟩ ?_
  repeat' ((conv => whnf); first
    | with_reducible refine CallX.data ?_
    | refine CallE.mk _ _ (sM) ?_
    | refine CallE.mk _ _ (s1) ?_
    | refine CallE.mk _ _ (s2) ?_
    | refine CallE.mk _ _ (s3) ?_
    | refine RegE.early (Cd.mk (show regOk _ _ _ _ = true by kernel_rfl) ?_)
    | refine Cd.mk rfl ?_
    | refine Br.t ?_
    | refine Br.f ?_
    | with_reducible refine Br.dec (fun _ => ?_) (fun _ => ?_)
    | refine NthE.mk _ rfl ?_
    | (refine TkE.fL ?_; (conv => whnf); fail_if_success (show forceL _ _))
    | refine Res.mk ?_)
  · rename_i g
    show D.bool _ = D.bool _
    unfold smallP
    rw [decide_eq_true (show -1000 ≤ dexp q from g), Bool.true_and]
    exact congrArg D.bool (decide_eq_decide.2 (by rw [dsg_sub_le]))
  · rename_i g
    show D.bool _ = D.bool _
    unfold smallP
    rw [decide_eq_false (show ¬ -1000 ≤ dexp q from g)]; rfl
/-- What is small has a moderate fineness, halved 16 times it is below 1/1024. -/
theorem mod_facts {q : Dyadic} (h1 : -1001 ≤ dexp q) (h2 : dabs q ≤ dof 64 0) : qab (q * dof 1 (-16)).toRat ≤ 1 / 1024 ∧ Nz 1017 (q * dof 1 (-16)) ∧ Ht 1010 q := by
  have k2 := q_le.2 h2
  rw [ab_rat] at k2
  have c64 : (dof 64 0).toRat = 64 := by
    rw [show dof 64 0 = dof 1 0 * 64 by decide, q_mul, show dof 1 0 = 1 by decide, q_one, show ((64 : Dyadic)) = (4 : Dyadic) * (4 * 4) by decide, q_mul, q_mul, show (4 : Dyadic) = 1 + 1 + 1 + 1 by decide, q_add, q_add, q_add, q_one]; grind
  have c16 : (dof 1 (-16)).toRat = 1 / 65536 := by
    rw [show (-16 : Int) = -((16 : Nat) : Int) by decide, dof_neg_rat]; simp only [pq]; grind
  rw [c64] at k2
  have hq : Ht 1010 q := by
    have e := dof_self q
    rw [← e]
    refine ht_grid (by omega) ?_
    rw [e]
    have : dof 64 0 < dof 1 ((1010 : Nat) : Int) := by rw [show dof 64 0 = dof 1 6 by decide]; exact dof1_lt.2 (by decide)
    grind
  refine ⟨by rw [q_mul, qab_mul, c16, qab_self (show (0 : Rat) ≤ 1 / 65536 by grind)]; grind, ?_, hq⟩
  have hN : Nz 1001 q := by
    have e := dof_self q
    have e2 : q = dof (dman q * 2 ^ (dexp q + 1001).toNat) (-((1001 : Nat) : Int)) := by
      rw [dof_shl, show -((1001 : Nat) : Int) + ((dexp q + 1001).toNat : Int) = dexp q by omega, dof_self]
    by_cases h0 : q.toRat = 0
    · exact .inl h0
    · right
      have hne : q ≠ 0 := fun g => h0 (by rw [g, q_zero])
      have g := dof_one_le hne
      have t : -(1001 : Int) ≤ dtop q := by
        have := dtop_ne hne
        have hm : 0 < (dman q).natAbs := by
          have : dman q ≠ 0 := fun g => hne (dman_eq_zero.1 g)
          omega
        have := nb_pos (n := (dman q).natAbs) (by omega)
        omega
      have g2 : dof 1 (-((1001 : Nat) : Int)) ≤ dabs q := by
        have := dof1_le.2 t
        grind
      rw [← dof_neg_rat, ← ab_rat]; exact q_le.2 g2
  rcases hN with g | g
  · left; rw [q_mul, g]; grind
  · right
    rw [q_mul, qab_mul, c16, qab_self (show (0 : Rat) ≤ 1 / 65536 by grind), show (1017 : Nat) = 1001 + 16 by decide, pq_add]
    have p16 : pq (1 / 2) 16 = 1 / 65536 := by simp only [pq]; grind
    rw [p16]
    exact Rat.mul_le_mul_of_nonneg_right g (by grind)
theorem small_facts {q : Dyadic} (h : smallP q = true) : qab (q * dof 1 (-16)).toRat ≤ 1 / 1024 ∧ Nz 1017 (q * dof 1 (-16)) ∧ Ht 1010 q := by
  unfold smallP at h
  rw [Bool.and_eq_true] at h
  have h1 := of_decide_eq_true h.1
  exact mod_facts (by omega) (of_decide_eq_true h.2)
theorem held_is (p : Int) : Sim Tryz.prog G0 true 68 [.int .i64 p] (.int .i64 (min (max p 2) 200)) := by
  refine sim_mk tab_ok Tryz.func68 rfl (by kernel_rfl) rfl ⟨Nat.le_of_ble_eq_true rfl, Nat.le_of_ble_eq_true rfl⟩ ?_
  repeat' ((conv => whnf); first
    | refine RegE.early (Cd.mk (show regOk _ _ _ _ = true by kernel_rfl) ?_)
    | refine Res.mk ?_
    | ((with_reducible refine EqE.idI ?_); first | refine EqE.mk _ (max_eq _ _) ?_ | refine EqE.mk _ (min_eq _ _) ?_))
  rfl
end Go.Ev.Ar

namespace Go.Ev.Ar
open Go Go.Ev Go.Proofs

/-- Data of moderate size that means two numbers. -/
inductive CxS : D → Cq → Prop where
  | mk {b : Bool} {l : List UInt32} {e : Int} {c : Bool} {k : List UInt32} {f : Int} {p q : Dyadic} (hp : DyS (.agg [.bool b, sl l, .int .i64 e]) p) (hq : DyS (.agg [.bool c, sl k, .int .i64 f]) q) :
    CxS (.agg [.bool b, sl l, .int .i64 e, .bool c, sl k, .int .i64 f]) (p, q)
theorem CxS.r {x : D} {z : Cq} (h : CxS x z) : CxR x z := by obtain ⟨a, b⟩ := h; exact .mk a.r b.r
theorem emay_is {x : D} {z : Cq} {t : Bool} (hx : CxS x z) (hz : Hc 100000 z) (ht : (smallP z.1 && smallP z.2) = t) : Sim Tryz.prog G0 true 66 [x] (.bool t) := by
  subst ht
  obtain ⟨h1, h2⟩ := hx
  rename_i p q
  obtain ⟨t1, g1⟩ : ∃ t, smallP p = t := ⟨_, rfl⟩
  obtain ⟨t2, g2⟩ : ∃ t, smallP q = t := ⟨_, rfl⟩
  have s1 := esmall_is h1 hz.1 g1
  have s2 := esmall_is h2 hz.2 g2
  dsimp only
  rw [g1, g2]
  clear g1 g2 hz h1 h2
  refine sim_mk tab_ok Tryz.func66 rfl (by kernel_rfl) rfl ⟨Nat.le_of_ble_eq_true rfl, Nat.le_of_ble_eq_true rfl⟩ ?_
  cases t1
  · repeat' ((conv => whnf); first
      | with_reducible refine CallX.data ?_
      | refine CallE.mk _ _ (s1) ?_
      | refine RegE.early (Cd.mk (show regOk _ _ _ _ = true by kernel_rfl) ?_)
      | refine Cd.mk rfl ?_
      | refine Br.f ?_
      | (refine TkE.fL ?_; (conv => whnf); fail_if_success (show forceL _ _))
      | refine Res.mk ?_)
    rfl
  · repeat' ((conv => whnf); first
      | with_reducible refine CallX.data ?_
      | refine CallE.mk _ _ (s1) ?_
      | refine CallE.mk _ _ (s2) ?_
      | refine RegE.early (Cd.mk (show regOk _ _ _ _ = true by kernel_rfl) ?_)
      | refine Cd.mk rfl ?_
      | refine Br.t ?_
      | (refine TkE.fL ?_; (conv => whnf); fail_if_success (show forceL _ _))
      | refine Res.mk ?_)
    rfl
theorem rof_small {z : Cq} (h : (smallP z.1 && smallP z.2) = true) : smallP (rof z).1 = true ∧ smallP (rof z).2 = true := by
  rw [Bool.and_eq_true] at h
  unfold rof; dsimp only
  exact ⟨by rcases mn_or z.1 z.2 with e | e <;> rw [e]; exact h.1; exact h.2, by rcases mx_or z.1 z.2 with e | e <;> rw [e]; exact h.1; exact h.2⟩
/-- The exponents of an interval in order. -/
def trR (q : Dyadic) (P : Int) : Rq := trn (yR (q * dof 1 (-16)) false P) false P
def expV (z : Cq) (p : Int) : Cq := iround ((trR z.1 (min (max p 2) 200 + 80)).1.1, (trR z.2 (min (max p 2) 200 + 80)).1.2) (min (max p 2) 200 + 10)
theorem trR_is {q : Dyadic} {P : Int} (h1 : 80 ≤ P) (h2 : P ≤ 300) (hs : smallP q = true) : Sim Tryz.prog G0 false 69 [dyD q, .bool false, .int .i64 P] (rqD (trR q P)) := by
  obtain ⟨f1, f2, f3⟩ := small_facts hs
  exact turnedR_is (.of (f3.mono (by decide))) (f3.mono (by decide)) h1 h2 rfl f1 f2 rfl
theorem trR_ht {q : Dyadic} {P : Int} (h1 : 80 ≤ P) (h2 : P ≤ 300) (hs : smallP q = true) : Hr 16700 (trR q P) := by
  obtain ⟨f1, f2, f3⟩ := small_facts hs
  have := trn_ht false h1 h2 f1 f2 16 (by omega)
  rwa [if_neg (by omega)] at this
attribute [irreducible] trR
set_option maxRecDepth 10000 in
set_option maxHeartbeats 1000000 in
theorem eExp_is {x : D} {z r : Cq} {p : Int} (hx : CxS x z) (hz : Hc 100000 z) (ht : (smallP z.1 && smallP z.2) = true) (ho : (trR (rof z).1 (min (max p 2) 200 + 80)).1.1 ≤ (trR (rof z).2 (min (max p 2) 200 + 80)).1.2) (hr : expV (rof z) p = r) : Sim Tryz.prog G0 false 15 [x, .int .i64 p] (.tup [cxD r, .int .i64 0]) := by
  have s1 := emay_is hx hz ht
  have s2 := rlHull_is (r := rof z) hx.r hx.r (hz.mono (by decide)) (hz.mono (by decide)) (by
    have := rof_ord z
    unfold ihull
    have e : ∀ p : Dyadic, mn p p = p ∧ mx p p = p := fun p => by unfold mn mx; simp
    rw [(e _).1, (e _).2])
  have s3 := held_is p
  obtain ⟨a1, a2⟩ := rof_small ht
  obtain ⟨P, hP⟩ : ∃ P, min (max p 2) 200 = P := ⟨_, rfl⟩
  have P1 : 2 ≤ P ∧ P ≤ 200 := by omega
  have s4 := trR_is (P := P + 80) (by omega) (by omega) a1
  have s5 := trR_is (P := P + 80) (by omega) (by omega) a2
  have h4 := trR_ht (P := P + 80) (by omega) (by omega) a1
  have h5 := trR_ht (P := P + 80) (by omega) (by omega) a2
  unfold expV at hr
  rw [hP] at s3 ho hr
  generalize trR (rof z).1 (P + 80) = X at *
  generalize trR (rof z).2 (P + 80) = Y at *
  generalize rof z = w at *
  have s6 := rlRound_is (r := r) (P + 10) (z := (X.1.1, Y.1.2)) (.of ⟨h4.1.1.mono (by decide), h5.1.2.mono (by decide)⟩) ⟨h4.1.1.mono (by decide), h5.1.2.mono (by decide)⟩ (by rw [rof_self (show Ord (X.1.1, Y.1.2) from ho)]; exact hr)
  clear hr ho h4 h5 hP
  obtain ⟨⟨_, _⟩, ⟨_, _⟩⟩ := X
  obtain ⟨⟨_, _⟩, ⟨_, _⟩⟩ := Y
  obtain ⟨_, _⟩ := w
  obtain ⟨_, _⟩ := r
  have kr := hx.r
  clear hx ht hz
  obtain ⟨_, _⟩ := kr
  refine sim_mk tab_ok Tryz.func15 rfl (by kernel_rfl) rfl ⟨Nat.le_of_ble_eq_true rfl, Nat.le_of_ble_eq_true rfl⟩ ?_
  repeat' ((conv => whnf); first
    | with_reducible refine CallX.data ?_
    | refine RegE.lateS (ps := [(14, 6), (14, 7), (14, 8), (14, 9), (14, 10), (14, 11)]) rfl (by kernel_rfl) ?_ rfl
    | refine CallE.mk _ _ (s1) ?_
    | refine CallE.mk _ _ (s2) ?_
    | refine CallE.mk _ _ (s3) ?_
    | refine CallE.mk _ _ (s4) ?_
    | refine CallE.mk _ _ (s5) ?_
    | refine CallE.mk _ _ (s6) ?_
    | refine RegE.early (Cd.mk (show regOk _ _ _ _ = true by kernel_rfl) ?_)
    | refine Cd.mk rfl ?_
    | refine Br.f ?_
    | (refine TkE.fL ?_; (conv => whnf); fail_if_success (show forceL _ _))
    | refine Res.mk ?_
    | refine LateE.mk (by repeat first | exact True.intro | refine And.intro (by kernel_rfl) ?_) ?_
    | ((with_reducible refine EqE.idW ?_); first | refine EqE.mk (P + 80) (wrap_in (by omega) (by omega)) ?_ | refine EqE.mk (P + 10) (wrap_in (by omega) (by omega)) ?_)
    | ((with_reducible refine EqE.idS ?_); (refine EqE.fP ?_; (conv => whnf); fail_if_success (show forceL _ _)))
    | refine Cd.mk (Nat.le_of_ble_eq_true rfl) ?_)
  rfl
set_option maxRecDepth 10000 in
theorem eExp_no {x : D} {z : Cq} (p : Int) (hx : CxS x z) (hz : Hc 100000 z) (ht : (smallP z.1 && smallP z.2) = false) : Sim Tryz.prog G0 false 15 [x, .int .i64 p] (.tup [cxD (0, 0), .int .i64 13]) := by
  have s1 := emay_is hx hz ht
  have kr := hx.r
  clear hx ht hz
  obtain ⟨_, _⟩ := kr
  refine sim_mk tab_ok Tryz.func15 rfl (by kernel_rfl) rfl ⟨Nat.le_of_ble_eq_true rfl, Nat.le_of_ble_eq_true rfl⟩ ?_
  repeat' ((conv => whnf); first
    | with_reducible refine CallX.data ?_
    | refine CallE.mk _ _ (s1) ?_
    | refine RegE.early (Cd.mk (show regOk _ _ _ _ = true by kernel_rfl) ?_)
    | refine Cd.mk rfl ?_
    | refine Br.t ?_
    | (refine TkE.fL ?_; (conv => whnf); fail_if_success (show forceL _ _))
    | refine Res.mk ?_
    | ((with_reducible refine EqE.idS ?_); (refine EqE.fP ?_; (conv => whnf); fail_if_success (show forceL _ _)))
    | refine Cd.mk (Nat.le_of_ble_eq_true rfl) ?_)
  show _ = D.tup [D.agg [.bool false, sl [], .int .i64 0, .bool false, sl [], .int .i64 0], _]
  rw [cxD_zero]; rfl
end Go.Ev.Ar

namespace Go.Ev.Ar
open Go Go.Ev Go.Proofs

/-- The exponent of a number lies in what is told of it, for all that many terms. -/
theorem trR_has {q : Dyadic} {P : Int} (h1 : 80 ≤ P) (h2 : P ≤ 300) (hs : smallP q = true) (n : Nat) (hn : trnT P ≤ n) : qhas (trR q P).1 (gr (q * dof 1 (-16)).toRat n) := by
  obtain ⟨f1, f2, f3⟩ := small_facts hs
  have h := trn0_has (x := q * dof 1 (-16)) false (show 1 ≤ P by omega) (show P ≤ 4000 by omega) f1 n hn
  have k := (sqn_has P h 16).1
  unfold trR trn
  exact k
theorem scl16_le {a b : Dyadic} (h : a ≤ b) : (a * dof 1 (-16)).toRat ≤ (b * dof 1 (-16)).toRat := by
  have := dmul_le (show (0 : Dyadic) ≤ dof 1 (-16) by have := dof1_pos (-16); grind) h
  rw [Dyadic.mul_comm a, Dyadic.mul_comm b]
  exact q_le.2 this
theorem exp_ends {a b : Dyadic} {P : Int} (h1 : 80 ≤ P) (h2 : P ≤ 300) (ha : smallP a = true) (hb : smallP b = true) (h : a ≤ b) : (trR a P).1.1 ≤ (trR b P).1.2 := by
  have x := trR_has h1 h2 ha (trnT P) (Nat.le_refl _)
  have y := trR_has h1 h2 hb (trnT P) (Nat.le_refl _)
  have fa := (small_facts ha).1
  have fb := (small_facts hb).1
  have m := gr_mono (x := (a * dof 1 (-16)).toRat) (y := (b * dof 1 (-16)).toRat) (by grind) (by grind) (scl16_le h) (trnT P)
  exact q_le.1 (Rat.le_trans x.1 (Rat.le_trans m y.2))
/-- The exponents of an interval's numbers lie in what is told of it. -/
theorem expV_has {z : Cq} {q : Dyadic} {p : Int} (hq : ihas z q) (hs : smallP q = true) (h1 : smallP z.1 = true) (h2 : smallP z.2 = true) (n : Nat) (hn : trnT (min (max p 2) 200 + 80) ≤ n) : qhas (expV z p) (gr (q * dof 1 (-16)).toRat n) := by
  have x := trR_has (P := min (max p 2) 200 + 80) (by omega) (by omega) h1 n hn
  have y := trR_has (P := min (max p 2) 200 + 80) (by omega) (by omega) h2 n hn
  have f0 := (small_facts hs).1
  have f1 := (small_facts h1).1
  have f2 := (small_facts h2).1
  have m1 := gr_mono (x := (z.1 * dof 1 (-16)).toRat) (y := (q * dof 1 (-16)).toRat) (by grind) (by grind) (scl16_le hq.1) n
  have m2 := gr_mono (x := (q * dof 1 (-16)).toRat) (y := (z.2 * dof 1 (-16)).toRat) (by grind) (by grind) (scl16_le hq.2) n
  exact qhas_in (z := ((trR z.1 (min (max p 2) 200 + 80)).1.1, (trR z.2 (min (max p 2) 200 + 80)).1.2)) ⟨Rat.le_trans x.1 m1, Rat.le_trans m2 y.2⟩ (iround_in _ _)
end Go.Ev.Ar
