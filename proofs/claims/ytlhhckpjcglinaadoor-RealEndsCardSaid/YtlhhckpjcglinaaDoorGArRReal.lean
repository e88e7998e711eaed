/- Contracts of the given functions, on data. Conditions stand in each theorem. -/
import Derived.Test.YtlhhckpjcglinaaDoorGArReal
import Derived.Test.YtlhhckpjcglinaaDoorGArWind
import Derived.Test.YtlhhckpjcglinaaDoorGArRealB
set_option linter.unusedSimpArgs false
set_option linter.unusedVariables false
namespace Go.Ev.Ar
open Go Go.Ev Go.Proofs

theorem rReal_is {x : D} {z r : Cq} (hx : CxF x z) (hz : Hc 48000 z) (h : rof z = r) : Sim Tryd.prog G0 false 18 [x] (cxD r) := by
  subst h
  have hd := hz.1.sub hz.2 (c := 50000) (by decide)
  obtain ⟨hp, hq⟩ := hx
  rename_i p q
  have hp' := hz.1.mono (show 48000 ≤ 49000 by decide)
  have hq' := hz.2.mono (show 48000 ≤ 49000 by decide)
  dsimp only at hp' hq'
  refine sim_mk tab_ok Tryd.func18 rfl (by kernel_rfl) rfl ⟨Nat.le_of_ble_eq_true rfl, Nat.le_of_ble_eq_true rfl⟩ ?_
  repeat' ((conv => whnf); first
    | with_reducible refine CallX.data ?_
    | refine CallE.mk _ _ (rExact_sim hp) ?_
    | refine CallE.mk _ _ (rExact_sim hq) ?_
    | refine CallE.mk _ _ (rdcmp_sim (p := p) (q := q) hp' hq' hd) ?_
    | refine RegE.early (Cd.mk (show regOk _ _ _ _ = true by kernel_rfl) ?_)
    | refine Cd.mk rfl ?_
    | refine Br.t ?_
    | refine Br.f ?_
    | with_reducible refine Br.eqd ?_
    | with_reducible refine Br.eqb ?_
    | with_reducible refine Br.dec (fun _ => ?_) (fun _ => ?_)
    | with_reducible refine Br.ndec (fun _ => ?_) (fun _ => ?_)
    | refine Br.mk (fun _ => ?_) (fun _ => ?_)
    | refine NthE.mk _ rfl ?_
    | refine And.intro (fun _ => ?_) ?_
    | (refine TkE.fL ?_; (conv => whnf); fail_if_success (show forceL _ _))
    | refine TkE.mk _ rfl rfl ?_
    | refine Res.mk ?_
    | refine LateE.mk (by repeat first | exact True.intro | refine And.intro (by kernel_rfl) ?_) ?_
    | refine DsE.mk [] rfl ?_
    | refine LoopEnd.go _ _ ⟨.inl rfl, rfl, rfl, by first | rfl | (repeat first | exact all_nil _ | refine all_la _ _ _ _ _ ?_)⟩ ?_
    | ((with_reducible refine EqE.idW ?_); first | with_reducible refine EqE.mk _ (n_i64 _ (by omega)) ?_ | with_reducible refine EqE.mk _ (n_succ _ (by omega)) ?_ | refine EqE.mk _ (wrap_in (by omega) (by omega)) ?_ | refine EqE.mk _ rfl ?_)
    | ((with_reducible refine EqE.idM ?_); refine EqE.mk _ rfl ?_)
    | ((with_reducible refine EqE.idI ?_); first | refine EqE.mk _ (max_eq _ _) ?_ | refine EqE.mk _ (min_eq _ _) ?_)
    | ((with_reducible refine EqE.idS ?_); first | (refine EqE.fP ?_; (conv => whnf); fail_if_success (show forceL _ _)) | refine EqE.mk _ rfl ?_)
    | ((with_reducible refine EqE.idL ?_); first | refine EqE.mk _ (sl_own _ _ _ _ (by omega) (by omega) rfl) ?_ | refine EqE.mk _ rfl ?_)
    | refine EqE.mk _ rfl ?_
    | refine Cd.mk (Nat.le_of_ble_eq_true rfl) ?_
    | refine Cd.mk ⟨rfl, rfl⟩ ?_
    | refine Cd.mk (by first | omega | (simp only [length_limbs, length_la]; omega)) ?_
    | refine Cd.mk ?_ ?_)
  · rename_i h
    unfold rof mn mx; dsimp only
    have h1 := dsg_gt.1 h
    rw [if_neg (fun g => by rw [← dsg_sub_le] at g; omega), if_pos (by grind)]; rfl
  · rename_i h
    have h1 : p ≤ q := dsg_sub_le.1 (by omega)
    rw [show rof (p, q) = (p, q) from rof_self h1]; rfl
theorem rEq_is {p q : Dyadic} {t : Bool} (hp : Ht 50000 p) (hq : Ht 50000 q) (h : decide (p = q) = t) : Sim Tryd.prog G0 true 31 [dyD p, dyD q] (.bool t) := h ▸ requal_sim hp hq
theorem rEqReal_is {z w : Cq} {t : Bool} (hz : Hc 50000 z) (hw : Hc 50000 w) (h : decide (z = w) = t) : Sim Tryd.prog G0 true 37 [cxD z, cxD w] (.bool t) := by
  subst h
  obtain ⟨p, q⟩ := z
  obtain ⟨p', q'⟩ := w
  refine sim_mk tab_ok Tryd.func37 rfl (by kernel_rfl) rfl ⟨Nat.le_of_ble_eq_true rfl, Nat.le_of_ble_eq_true rfl⟩ ?_
  repeat' ((conv => whnf); first
    | with_reducible refine CallX.data ?_
    | refine CallE.mk _ _ (rEq_is (p := p) (q := p') hz.1 hw.1 rfl) ?_
    | refine CallE.mk _ _ (rEq_is (p := q) (q := q') hz.2 hw.2 rfl) ?_
    | refine RegE.early (Cd.mk (show regOk _ _ _ _ = true by kernel_rfl) ?_)
    | refine Cd.mk rfl ?_
    | refine Br.t ?_
    | refine Br.f ?_
    | with_reducible refine Br.eqd ?_
    | with_reducible refine Br.eqb ?_
    | with_reducible refine Br.dec (fun _ => ?_) (fun _ => ?_)
    | with_reducible refine Br.ndec (fun _ => ?_) (fun _ => ?_)
    | refine Br.mk (fun _ => ?_) (fun _ => ?_)
    | refine NthE.mk _ rfl ?_
    | refine And.intro (fun _ => ?_) ?_
    | (refine TkE.fL ?_; (conv => whnf); fail_if_success (show forceL _ _))
    | refine TkE.mk _ rfl rfl ?_
    | refine Res.mk ?_
    | refine LateE.mk (by repeat first | exact True.intro | refine And.intro (by kernel_rfl) ?_) ?_
    | refine DsE.mk [] rfl ?_
    | refine LoopEnd.go _ _ ⟨.inl rfl, rfl, rfl, by first | rfl | (repeat first | exact all_nil _ | refine all_la _ _ _ _ _ ?_)⟩ ?_
    | ((with_reducible refine EqE.idW ?_); first | with_reducible refine EqE.mk _ (n_i64 _ (by omega)) ?_ | with_reducible refine EqE.mk _ (n_succ _ (by omega)) ?_ | refine EqE.mk _ (wrap_in (by omega) (by omega)) ?_ | refine EqE.mk _ rfl ?_)
    | ((with_reducible refine EqE.idM ?_); refine EqE.mk _ rfl ?_)
    | ((with_reducible refine EqE.idI ?_); first | refine EqE.mk _ (max_eq _ _) ?_ | refine EqE.mk _ (min_eq _ _) ?_)
    | ((with_reducible refine EqE.idS ?_); first | (refine EqE.fP ?_; (conv => whnf); fail_if_success (show forceL _ _)) | refine EqE.mk _ rfl ?_)
    | ((with_reducible refine EqE.idL ?_); first | refine EqE.mk _ (sl_own _ _ _ _ (by omega) (by omega) rfl) ?_ | refine EqE.mk _ rfl ?_)
    | refine EqE.mk _ rfl ?_
    | refine Cd.mk (Nat.le_of_ble_eq_true rfl) ?_
    | refine Cd.mk ⟨rfl, rfl⟩ ?_
    | refine Cd.mk (by first | omega | (simp only [length_limbs, length_la]; omega)) ?_
    | refine Cd.mk ?_ ?_)
  · rename_i h
    refine congrArg D.bool (decide_eq_decide.2 ?_)
    rw [Prod.mk.injEq]; exact ⟨fun g => g.2, fun g => ⟨h, g⟩⟩
  · rename_i h
    refine congrArg D.bool (decide_eq_false fun g => h ?_)
    rw [Prod.mk.injEq] at g; exact g.1
end Go.Ev.Ar

namespace Go.Ev.Ar
open Go Go.Ev Go.Proofs

theorem few7_sim (b : Bool) (l : List UInt32) (e : Int) : Sim Tryd.prog G0 true 40 [.agg [.bool b, sl l, .int .i64 e]] (.bool (fewD 10 1000 l e)) := by
  refine sim_mk tab_ok Tryd.func40 rfl (by kernel_rfl) rfl ⟨Nat.le_of_ble_eq_true rfl, Nat.le_of_ble_eq_true rfl⟩ ?_
  repeat' ((conv => whnf); first
    | with_reducible refine CallX.data ?_
    | refine RegE.early (Cd.mk (show regOk _ _ _ _ = true by kernel_rfl) ?_)
    | refine Cd.mk rfl ?_
    | refine Br.t ?_
    | refine Br.f ?_
    | with_reducible refine Br.eqd ?_
    | with_reducible refine Br.eqb ?_
    | with_reducible refine Br.dec (fun _ => ?_) (fun _ => ?_)
    | with_reducible refine Br.ndec (fun _ => ?_) (fun _ => ?_)
    | refine Br.mk (fun _ => ?_) (fun _ => ?_)
    | refine NthE.mk _ rfl ?_
    | refine And.intro (fun _ => ?_) ?_
    | (refine TkE.fL ?_; (conv => whnf); fail_if_success (show forceL _ _))
    | refine TkE.mk _ rfl rfl ?_
    | refine Res.mk ?_
    | refine LateE.mk (by repeat first | exact True.intro | refine And.intro (by kernel_rfl) ?_) ?_
    | refine DsE.mk [] rfl ?_
    | refine LoopEnd.go _ _ ⟨.inl rfl, rfl, rfl, by first | rfl | (repeat first | exact all_nil _ | refine all_la _ _ _ _ _ ?_)⟩ ?_
    | ((with_reducible refine EqE.idW ?_); first | with_reducible refine EqE.mk _ (n_i64 _ (by omega)) ?_ | with_reducible refine EqE.mk _ (n_succ _ (by omega)) ?_ | refine EqE.mk _ (wrap_in (by omega) (by omega)) ?_ | refine EqE.mk _ rfl ?_)
    | ((with_reducible refine EqE.idM ?_); refine EqE.mk _ rfl ?_)
    | ((with_reducible refine EqE.idI ?_); first | refine EqE.mk _ (max_eq _ _) ?_ | refine EqE.mk _ (min_eq _ _) ?_)
    | ((with_reducible refine EqE.idS ?_); first | (refine EqE.fP ?_; (conv => whnf); fail_if_success (show forceL _ _)) | refine EqE.mk _ rfl ?_)
    | ((with_reducible refine EqE.idL ?_); first | refine EqE.mk _ (sl_own _ _ _ _ (by omega) (by omega) rfl) ?_ | refine EqE.mk _ rfl ?_)
    | refine EqE.mk _ rfl ?_
    | refine Cd.mk (Nat.le_of_ble_eq_true rfl) ?_
    | refine Cd.mk ⟨rfl, rfl⟩ ?_
    | refine Cd.mk (by first | omega | (simp only [length_limbs, length_la]; omega)) ?_
    | refine Cd.mk ?_ ?_)
  · rename_i h1 h2
    show D.bool _ = D.bool _
    congr 1
    unfold fewD
    rw [decide_eq_true (show l.length ≤ 10 by omega), decide_eq_true (show -1000 ≤ e by omega)]; rfl
  · rename_i h1 h2
    show D.bool _ = D.bool _
    rw [fewD_false (by omega)]
  · rename_i h1
    show D.bool _ = D.bool _
    rw [fewD_false (by omega)]
theorem fewreal7_sim (r : RC) : Sim Tryd.prog G0 true 13 [.agg r.cells] (.bool (r.few 10 1000)) := by
  obtain ⟨b, l, e, c, k, f⟩ := r
  refine sim_mk tab_ok Tryd.func13 rfl (by kernel_rfl) rfl ⟨Nat.le_of_ble_eq_true rfl, Nat.le_of_ble_eq_true rfl⟩ ?_
  repeat' ((conv => whnf); first
    | with_reducible refine CallX.data ?_
    | refine CallE.mk _ _ (few7_sim _ _ _) ?_
    | refine RegE.early (Cd.mk (show regOk _ _ _ _ = true by kernel_rfl) ?_)
    | refine Cd.mk rfl ?_
    | refine Br.t ?_
    | refine Br.f ?_
    | with_reducible refine Br.eqd ?_
    | with_reducible refine Br.eqb ?_
    | with_reducible refine Br.dec (fun _ => ?_) (fun _ => ?_)
    | with_reducible refine Br.ndec (fun _ => ?_) (fun _ => ?_)
    | refine Br.mk (fun _ => ?_) (fun _ => ?_)
    | refine NthE.mk _ rfl ?_
    | refine And.intro (fun _ => ?_) ?_
    | (refine TkE.fL ?_; (conv => whnf); fail_if_success (show forceL _ _))
    | refine TkE.mk _ rfl rfl ?_
    | refine Res.mk ?_
    | refine LateE.mk (by repeat first | exact True.intro | refine And.intro (by kernel_rfl) ?_) ?_
    | refine DsE.mk [] rfl ?_
    | refine LoopEnd.go _ _ ⟨.inl rfl, rfl, rfl, by first | rfl | (repeat first | exact all_nil _ | refine all_la _ _ _ _ _ ?_)⟩ ?_
    | ((with_reducible refine EqE.idW ?_); first | with_reducible refine EqE.mk _ (n_i64 _ (by omega)) ?_ | with_reducible refine EqE.mk _ (n_succ _ (by omega)) ?_ | refine EqE.mk _ (wrap_in (by omega) (by omega)) ?_ | refine EqE.mk _ rfl ?_)
    | ((with_reducible refine EqE.idM ?_); refine EqE.mk _ rfl ?_)
    | ((with_reducible refine EqE.idI ?_); first | refine EqE.mk _ (max_eq _ _) ?_ | refine EqE.mk _ (min_eq _ _) ?_)
    | ((with_reducible refine EqE.idS ?_); first | (refine EqE.fP ?_; (conv => whnf); fail_if_success (show forceL _ _)) | refine EqE.mk _ rfl ?_)
    | ((with_reducible refine EqE.idL ?_); first | refine EqE.mk _ (sl_own _ _ _ _ (by omega) (by omega) rfl) ?_ | refine EqE.mk _ rfl ?_)
    | refine EqE.mk _ rfl ?_
    | refine Cd.mk (Nat.le_of_ble_eq_true rfl) ?_
    | refine Cd.mk ⟨rfl, rfl⟩ ?_
    | refine Cd.mk (by first | omega | (simp only [length_limbs, length_la]; omega)) ?_
    | refine Cd.mk ?_ ?_)
  all_goals
    rename_i h
    show D.bool (_ && _) = D.bool _
    rw [h]; rfl
theorem of7_is (m n : Int) (h1 : m.natAbs ≤ 8) (h2 : n.natAbs ≤ 8) : Sim Tryd.prog G0 false 36 [.int .i64 m, .int .i64 n] (cxD (dof m 0, dof n 0)) := by
  refine sim_mk tab_ok Tryd.func36 rfl (by kernel_rfl) rfl ⟨Nat.le_of_ble_eq_true rfl, Nat.le_of_ble_eq_true rfl⟩ ?_
  repeat' ((conv => whnf); first
    | with_reducible refine CallX.data ?_
    | refine CallE.mk _ _ (rofd_sim m (by omega) (by omega)) ?_
    | refine CallE.mk _ _ (rofd_sim n (by omega) (by omega)) ?_
    | refine RegE.early (Cd.mk (show regOk _ _ _ _ = true by kernel_rfl) ?_)
    | refine Cd.mk rfl ?_
    | refine Br.t ?_
    | refine Br.f ?_
    | with_reducible refine Br.eqd ?_
    | with_reducible refine Br.eqb ?_
    | with_reducible refine Br.dec (fun _ => ?_) (fun _ => ?_)
    | with_reducible refine Br.ndec (fun _ => ?_) (fun _ => ?_)
    | refine Br.mk (fun _ => ?_) (fun _ => ?_)
    | refine NthE.mk _ rfl ?_
    | refine And.intro (fun _ => ?_) ?_
    | (refine TkE.fL ?_; (conv => whnf); fail_if_success (show forceL _ _))
    | refine TkE.mk _ rfl rfl ?_
    | refine Res.mk ?_
    | refine LateE.mk (by repeat first | exact True.intro | refine And.intro (by kernel_rfl) ?_) ?_
    | refine DsE.mk [] rfl ?_
    | refine LoopEnd.go _ _ ⟨.inl rfl, rfl, rfl, by first | rfl | (repeat first | exact all_nil _ | refine all_la _ _ _ _ _ ?_)⟩ ?_
    | ((with_reducible refine EqE.idW ?_); first | with_reducible refine EqE.mk _ (n_i64 _ (by omega)) ?_ | with_reducible refine EqE.mk _ (n_succ _ (by omega)) ?_ | refine EqE.mk _ (wrap_in (by omega) (by omega)) ?_ | refine EqE.mk _ rfl ?_)
    | ((with_reducible refine EqE.idM ?_); refine EqE.mk _ rfl ?_)
    | ((with_reducible refine EqE.idI ?_); first | refine EqE.mk _ (max_eq _ _) ?_ | refine EqE.mk _ (min_eq _ _) ?_)
    | ((with_reducible refine EqE.idS ?_); first | (refine EqE.fP ?_; (conv => whnf); fail_if_success (show forceL _ _)) | refine EqE.mk _ rfl ?_)
    | ((with_reducible refine EqE.idL ?_); first | refine EqE.mk _ (sl_own _ _ _ _ (by omega) (by omega) rfl) ?_ | refine EqE.mk _ rfl ?_)
    | refine EqE.mk _ rfl ?_
    | refine Cd.mk (Nat.le_of_ble_eq_true rfl) ?_
    | refine Cd.mk ⟨rfl, rfl⟩ ?_
    | refine Cd.mk (by first | omega | (simp only [length_limbs, length_la]; omega)) ?_
    | refine Cd.mk ?_ ?_)
  rfl
/-- A small interval. -/
def kr (m n : Int) : Cq := (dof m 0, dof n 0)
theorem hkr {m n : Int} (h : m.natAbs ≤ 8 := by decide) (h2 : n.natAbs ≤ 8 := by decide) : Hc 100 (kr m n) := hc_kz h h2
theorem xkr {m n : Int} (h : m.natAbs ≤ 8 := by decide) (h2 : n.natAbs ≤ 8 := by decide) : CxR (cxD (kr m n)) (kr m n) := kx h h2
theorem k7_i1 : Sim Tryd.prog G0 false 15 [cxD (kr (-1) 2), .int .i64 10] (.tup [cxD (0, 0), .int .i64 11]) := rlInv_is 10 xkr (Hc.mono hkr (by decide)) (by decide)
theorem k7_q : iinvE (rof (kr 2 4)) 10 = ((dof 1 (-2), dof 1 (-1)), 0) := by decide +kernel
theorem k7_i2 : Sim Tryd.prog G0 false 15 [cxD (kr 2 4), .int .i64 10] (.tup [cxD (dof 1 (-2), dof 1 (-1)), .int .i64 0]) := rlInv_is 10 xkr (Hc.mono hkr (by decide)) k7_q
theorem k7_m1 : Sim Tryd.prog G0 false 23 [cxD (kr (-1) 2), cxD (kr 1 5)] (.tup [cxD (kr 1 2), .bool true]) := rlMeet_is xkr xkr (Hc.mono hkr (by decide)) (Hc.mono hkr (by decide)) (by decide)
theorem k7_m2 : Sim Tryd.prog G0 false 23 [cxD (kr (-1) 2), cxD (kr 3 5)] (.tup [cxD (0, 0), .bool false]) := rlMeet_is xkr xkr (Hc.mono hkr (by decide)) (Hc.mono hkr (by decide)) (by decide)
theorem k7_is1 : Sim Tryd.prog G0 true 19 [cxD (kr (-1) 2)] (.bool true) := rlIs_is xkr (Hc.mono hkr (by decide)) (by decide)
theorem k7_is2 : Sim Tryd.prog G0 true 19 [cxD (kr 1 0)] (.bool false) := rlIs_is xkr (Hc.mono hkr (by decide)) (by decide)
theorem k7_sq : Sim Tryd.prog G0 false 38 [cxD (kr (-1) 2)] (cxD (kr 0 4)) := rlSquare_is xkr (Hc.mono hkr (by decide)) (by decide)
theorem k7_e1 : Sim Tryd.prog G0 true 37 [cxD (kr 0 4), cxD (kr 0 4)] (.bool true) := rEqReal_is (Hc.mono hkr (by decide)) (Hc.mono hkr (by decide)) (by decide)
theorem k7_sc : Sim Tryd.prog G0 false 39 [dyD (dof 1 0), .int .i64 (-2)] (dyD (dof 1 (-2))) := by
  have h := rdscale_sim (-2) ((ht_one 1 (by decide)).mono (show 100 ≤ 50000 by decide))
  rwa [show dof 1 0 * dof 1 (min (max (-2) (-20000)) 20000) = dof 1 (-2) by decide] at h
theorem k7_e2 : Sim Tryd.prog G0 true 31 [dyD (dof 1 (-2)), dyD (dof 1 (-2))] (.bool true) := rEq_is ((Ht.cst (by decide)).mono (by decide)) ((Ht.cst (by decide)).mono (by decide)) (by decide)
theorem k7_e3 : Sim Tryd.prog G0 true 37 [cxD (kr 1 2), cxD (kr 1 2)] (.bool true) := rEqReal_is (Hc.mono hkr (by decide)) (Hc.mono hkr (by decide)) (by decide)
theorem k7_has : Sim Tryd.prog G0 true 16 [cxD (kr (-1) 2), dyD (dof 2 0)] (.bool true) := rlHas_is xkr (.of ((ht_one 2 (by decide)).mono (by decide))) (Hc.mono hkr (by decide)) ((ht_one 2 (by decide)).mono (by decide)) (by decide)
theorem k7_in : Sim Tryd.prog G0 true 24 [cxD (kr 0 1), cxD (kr (-1) 2)] (.bool true) := rlIn_is xkr xkr (Hc.mono hkr (by decide)) (Hc.mono hkr (by decide)) (by decide)
theorem k7_abs : Sim Tryd.prog G0 false 27 [cxD (kr (-1) 2)] (cxD (kr 0 2)) := rlAbs_is xkr (Hc.mono hkr (by decide)) (by decide)
theorem k7_e4 : Sim Tryd.prog G0 true 37 [cxD (kr 0 2), cxD (kr 0 2)] (.bool true) := rEqReal_is (Hc.mono hkr (by decide)) (Hc.mono hkr (by decide)) (by decide)
theorem k7_same : Sim Tryd.prog G0 true 25 [cxD (kr (-1) 2), cxD (kr (-1) 2)] (.bool true) := rlSame_is xkr xkr (Hc.mono hkr (by decide)) (Hc.mono hkr (by decide)) (by decide)
theorem of7_at (m n : Int) (h1 : m.natAbs ≤ 8 := by decide) (h2 : n.natAbs ≤ 8 := by decide) : Sim Tryd.prog G0 false 36 [.int .i64 m, .int .i64 n] (cxD (kr m n)) := of7_is m n h1 h2
set_option maxHeartbeats 4000000 in
theorem known7_sim : Sim Tryd.prog G0 true 12 [] (.bool true) := by
  refine sim_mk tab_ok Tryd.func12 rfl (by kernel_rfl) rfl ⟨Nat.le_of_ble_eq_true rfl, Nat.le_of_ble_eq_true rfl⟩ ?_
  repeat' ((conv => whnf); first
    | with_reducible refine CallX.data ?_
    | refine CallE.mk _ _ (of7_at (-1) 2) ?_
    | refine CallE.mk _ _ (k7_i1) ?_
    | refine CallE.mk _ _ (of7_at 2 4) ?_
    | refine CallE.mk _ _ (k7_i2) ?_
    | refine CallE.mk _ _ (of7_at 1 5) ?_
    | refine CallE.mk _ _ (k7_m1) ?_
    | refine CallE.mk _ _ (of7_at 3 5) ?_
    | refine CallE.mk _ _ (k7_m2) ?_
    | refine CallE.mk _ _ (k7_is1) ?_
    | refine CallE.mk _ _ (of7_at 1 0) ?_
    | refine CallE.mk _ _ (k7_is2) ?_
    | refine CallE.mk _ _ (k7_sq) ?_
    | refine CallE.mk _ _ (of7_at 0 4) ?_
    | refine CallE.mk _ _ (k7_e1) ?_
    | refine CallE.mk _ _ (rofd_sim 1 (by decide) (by decide)) ?_
    | refine CallE.mk _ _ (k7_sc) ?_
    | refine CallE.mk _ _ (k7_e2) ?_
    | refine CallE.mk _ _ (of7_at 1 2) ?_
    | refine CallE.mk _ _ (k7_e3) ?_
    | refine CallE.mk _ _ (rofd_sim 2 (by decide) (by decide)) ?_
    | refine CallE.mk _ _ (k7_has) ?_
    | refine CallE.mk _ _ (of7_at 0 1) ?_
    | refine CallE.mk _ _ (k7_in) ?_
    | refine CallE.mk _ _ (k7_abs) ?_
    | refine CallE.mk _ _ (of7_at 0 2) ?_
    | refine CallE.mk _ _ (k7_e4) ?_
    | refine CallE.mk _ _ (k7_same) ?_
    | refine RegE.early (Cd.mk (show regOk _ _ _ _ = true by kernel_rfl) ?_)
    | refine Cd.mk rfl ?_
    | refine Br.t ?_
    | refine Br.f ?_
    | with_reducible refine Br.eqd ?_
    | with_reducible refine Br.eqb ?_
    | with_reducible refine Br.dec (fun _ => ?_) (fun _ => ?_)
    | with_reducible refine Br.ndec (fun _ => ?_) (fun _ => ?_)
    | refine Br.mk (fun _ => ?_) (fun _ => ?_)
    | refine NthE.mk _ rfl ?_
    | refine And.intro (fun _ => ?_) ?_
    | (refine TkE.fL ?_; (conv => whnf); fail_if_success (show forceL _ _))
    | refine TkE.mk _ rfl rfl ?_
    | refine Res.mk ?_
    | refine LateE.mk (by repeat first | exact True.intro | refine And.intro (by kernel_rfl) ?_) ?_
    | refine DsE.mk [] rfl ?_
    | refine LoopEnd.go _ _ ⟨.inl rfl, rfl, rfl, by first | rfl | (repeat first | exact all_nil _ | refine all_la _ _ _ _ _ ?_)⟩ ?_
    | ((with_reducible refine EqE.idW ?_); first | with_reducible refine EqE.mk _ (n_i64 _ (by omega)) ?_ | with_reducible refine EqE.mk _ (n_succ _ (by omega)) ?_ | refine EqE.mk _ (wrap_in (by omega) (by omega)) ?_ | refine EqE.mk _ rfl ?_)
    | ((with_reducible refine EqE.idM ?_); refine EqE.mk _ rfl ?_)
    | ((with_reducible refine EqE.idI ?_); first | refine EqE.mk _ (max_eq _ _) ?_ | refine EqE.mk _ (min_eq _ _) ?_)
    | ((with_reducible refine EqE.idS ?_); first | (refine EqE.fP ?_; (conv => whnf); fail_if_success (show forceL _ _)) | refine EqE.mk _ rfl ?_)
    | ((with_reducible refine EqE.idL ?_); first | refine EqE.mk _ (sl_own _ _ _ _ (by omega) (by omega) rfl) ?_ | refine EqE.mk _ rfl ?_)
    | refine EqE.mk _ rfl ?_
    | refine Cd.mk (Nat.le_of_ble_eq_true rfl) ?_
    | refine Cd.mk ⟨rfl, rfl⟩ ?_
    | refine Cd.mk (by first | omega | (simp only [length_limbs, length_la]; omega)) ?_
    | refine Cd.mk ?_ ?_)
  rfl
end Go.Ev.Ar

namespace Go.Ev.Ar
open Go Go.Ev Go.Proofs

theorem n_rem8 (n : Nat) : (n : Int).tmod 8 = ((n % 8 : Nat) : Int) := n_rem n 8
theorem n_rem60 (n : Nat) : (n : Int).tmod 60 = ((n % 60 : Nat) : Int) := n_rem n 60
theorem n_rem6 (n : Nat) : (n : Int).tmod 6 = ((n % 6 : Nat) : Int) := n_rem n 6
theorem n_rem5 (n : Nat) : (n : Int).tmod 5 = ((n % 5 : Nat) : Int) := n_rem n 5
theorem n_rem2 (n : Nat) : (n : Int).tmod 2 = ((n % 2 : Nat) : Int) := n_rem n 2
theorem imul_one_has {I : Cq} {a : Dyadic} (h : (I.1 * a ≤ 1 ∧ 1 ≤ I.2 * a) ∨ (I.2 * a ≤ 1 ∧ 1 ≤ I.1 * a)) : ihas (imul I (a, a)) 1 := by
  unfold ihas imul mn mx; dsimp only
  grind
set_option maxHeartbeats 4000000 in
theorem realsigns_sim (r : RC) (n m : Nat) (hn : n < 256) (hm : m < 256) : Sim Tryd.prog G0 true 4 [.agg r.cells, .int .u8 n, .int .u8 m] (.bool true) := by
  have sf := fewreal7_sim r
  have fr := few_cx (r := r)
  obtain ⟨b, l, e, c, k, f⟩ := r
  cases h1 : RC.few 10 1000 ⟨b, l, e, c, k, f⟩
  · rw [h1] at sf
    refine sim_mk tab_ok Tryd.func4 rfl (by kernel_rfl) rfl ⟨Nat.le_of_ble_eq_true rfl, Nat.le_of_ble_eq_true rfl⟩ ?_
    repeat' ((conv => whnf); first
      | with_reducible refine CallX.data ?_
      | refine CallE.mk _ _ (known7_sim) ?_
      | refine CallE.mk _ _ (sf) ?_
      | refine RegE.early (Cd.mk (show regOk _ _ _ _ = true by kernel_rfl) ?_)
      | refine Cd.mk rfl ?_
      | refine Br.t ?_
      | refine Br.f ?_
      | with_reducible refine Br.eqd ?_
      | with_reducible refine Br.eqb ?_
      | with_reducible refine Br.dec (fun _ => ?_) (fun _ => ?_)
      | with_reducible refine Br.ndec (fun _ => ?_) (fun _ => ?_)
      | refine Br.mk (fun _ => ?_) (fun _ => ?_)
      | refine NthE.mk _ rfl ?_
      | refine And.intro (fun _ => ?_) ?_
      | (refine TkE.fL ?_; (conv => whnf); fail_if_success (show forceL _ _))
      | refine TkE.mk _ rfl rfl ?_
      | refine Res.mk ?_
      | refine LateE.mk (by repeat first | exact True.intro | refine And.intro (by kernel_rfl) ?_) ?_
      | refine DsE.mk [] rfl ?_
      | refine LoopEnd.go _ _ ⟨.inl rfl, rfl, rfl, by first | rfl | (repeat first | exact all_nil _ | refine all_la _ _ _ _ _ ?_)⟩ ?_
      | ((with_reducible refine EqE.idW ?_); first | with_reducible refine EqE.mk _ (n_i64 _ (by omega)) ?_ | with_reducible refine EqE.mk _ (n_succ _ (by omega)) ?_ | refine EqE.mk _ (wrap_in (by omega) (by omega)) ?_ | refine EqE.mk _ rfl ?_)
      | ((with_reducible refine EqE.idM ?_); refine EqE.mk _ rfl ?_)
      | ((with_reducible refine EqE.idI ?_); first | refine EqE.mk _ (max_eq _ _) ?_ | refine EqE.mk _ (min_eq _ _) ?_)
      | ((with_reducible refine EqE.idS ?_); first | (refine EqE.fP ?_; (conv => whnf); fail_if_success (show forceL _ _)) | refine EqE.mk _ rfl ?_)
      | ((with_reducible refine EqE.idL ?_); first | refine EqE.mk _ (sl_own _ _ _ _ (by omega) (by omega) rfl) ?_ | refine EqE.mk _ rfl ?_)
      | refine EqE.mk _ rfl ?_
      | refine Cd.mk (Nat.le_of_ble_eq_true rfl) ?_
      | refine Cd.mk ⟨rfl, rfl⟩ ?_
      | refine Cd.mk (by first | omega | (simp only [length_limbs, length_la]; omega)) ?_
      | refine Cd.mk ?_ ?_)
    rfl
  rw [h1] at sf
  obtain ⟨xr, xf, xh⟩ := fr h1
  generalize RC.val ⟨b, l, e, c, k, f⟩ = z at xr xf xh
  have ho := rof_ord z
  have hr := xh.rof
  have K8 : clampP (2 * ((n % 8 : Nat) : Int)) % 2 = 0 := by unfold clampP; omega
  have s1 := rlPow_is (2 * ((n % 8 : Nat) : Int)) xr (xh.mono (by decide)) rfl
  have hY : Hc 20000 (ipow (rof z) (2 * ((n % 8 : Nat) : Int))) := hr.ipow _ (k := 14) (by unfold clampP; omega) (by decide)
  have hge := ipow_even_ge ho K8
  obtain ⟨t, ht⟩ : ∃ t, decide (ihas (rof z) 0) = t := ⟨_, rfl⟩
  obtain ⟨⟨I, c0⟩, hI⟩ : ∃ I, iinvE (rof z) (((m % 60 : Nat) : Int) + 1) = I := ⟨_, rfl⟩
  have s2 := rlInv_is (((m % 60 : Nat) : Int) + 1) xr (xh.mono (by decide)) hI
  have s3 := rlHas_is xr dy0 (xh.mono (by decide)) (Ht.zero _) ht
  have s5 := rReal_is xf (xh.mono (by decide)) rfl
  have hIt : Hc 2000 I := by
    have h := hr.iinvE (p := ((m % 60 : Nat) : Int) + 1) (K := 60) (by omega)
    rw [hI] at h; exact h.mono (by decide)
  generalize ipow (rof z) (2 * ((n % 8 : Nat) : Int)) = Y at *
  have s4 := rdsign_sim (hY.1.mono (show 20000 ≤ 50000 by decide))
  have g4 : ¬ dsg Y.1 < 0 := by have := dsg_ge.2 hge; omega
  generalize rof z = w at *
  unfold iinvE at hI
  cases t
  · have ht := of_decide_eq_false ht
    rw [if_neg ht] at hI; cases hI
    have sg := iinv_sign (((m % 60 : Nat) : Int) + 1) ho ht
    have io := iinv_ord (((m % 60 : Nat) : Int) + 1) ho ht
    have i1 := iinv_has (((m % 60 : Nat) : Int) + 1) (ihas_l ho) ht
    have i2 := iinv_has (((m % 60 : Nat) : Int) + 1) (ihas_r ho) ht
    generalize iinv w (((m % 60 : Nat) : Int) + 1) = I at *
    have s7 := rlIs_is (t := true) (.of (hIt.mono (by decide))) (hIt.mono (by decide)) (decide_eq_true io)
    have o1 := rlOf_is (.of (hr.1.mono (by decide))) (hr.1.mono (by decide))
    have o2 := rlOf_is (.of (hr.2.mono (by decide))) (hr.2.mono (by decide))
    have c1 : Hc 1320 (w.1, w.1) := ⟨hr.1, hr.1⟩
    have c2 : Hc 1320 (w.2, w.2) := ⟨hr.2, hr.2⟩
    have m1 := rlMul_is (.of (hIt.mono (by decide))) (.of (c1.mono (by decide))) (hIt.mono (by decide)) (c1.mono (by decide)) rfl
    have m2 := rlMul_is (.of (hIt.mono (by decide))) (.of (c2.mono (by decide))) (hIt.mono (by decide)) (c2.mono (by decide)) rfl
    have n1 : Hc 3320 (imul I (w.1, w.1)) := hIt.imul c1 (by decide)
    have n2 : Hc 3320 (imul I (w.2, w.2)) := hIt.imul c2 (by decide)
    have q1 : ihas (rof (imul I (w.1, w.1))) (dof 1 0) := by
      rw [rof_self (imul_ord _ _)]
      refine imul_one_has ?_
      rcases sg with ⟨a1, a2, a3, a4⟩ | ⟨a1, a2, a3, a4⟩
      · have := i1.1 a1; left; grind
      · have := i1.2 a1; right; grind
    have q2 : ihas (rof (imul I (w.2, w.2))) (dof 1 0) := by
      rw [rof_self (imul_ord _ _)]
      refine imul_one_has ?_
      rcases sg with ⟨a1, a2, a3, a4⟩ | ⟨a1, a2, a3, a4⟩
      · have := i2.1 a2; left; grind
      · have := i2.2 a2; right; grind
    have p1 := rlHas_is (t := true) (.of (n1.mono (by decide))) (.of ((ht_one 1 (by decide)).mono (by decide))) (n1.mono (by decide)) ((ht_one 1 (by decide)).mono (by decide)) (decide_eq_true q1)
    have p2 := rlHas_is (t := true) (.of (n2.mono (by decide))) (.of ((ht_one 1 (by decide)).mono (by decide))) (n2.mono (by decide)) ((ht_one 1 (by decide)).mono (by decide)) (decide_eq_true q2)
    generalize imul I (w.1, w.1) = M1 at *
    generalize imul I (w.2, w.2) = M2 at *
    obtain ⟨d, hd⟩ : ∃ d, dsg w.1 = d := ⟨_, rfl⟩
    have hd2 : dsg I.1 = d := by
      rw [← hd]
      rcases sg with ⟨a1, a2, a3, a4⟩ | ⟨a1, a2, a3, a4⟩
      · have u := dsg_gt.2 a1; have v := dsg_gt.2 a3
        have := dsg_cases w.1; have := dsg_cases I.1; omega
      · have u := dsg_lt.2 a1; have v := dsg_lt.2 a3
        have := dsg_cases w.1; have := dsg_cases I.1; omega
    have g1 := rdsign_at (hr.1.mono (show 1320 ≤ 50000 by decide)) hd
    have g2 := rdsign_at (hIt.1.mono (show 2000 ≤ 50000 by decide)) hd2
    obtain ⟨_, _⟩ := w
    obtain ⟨_, _⟩ := I
    obtain ⟨_, _⟩ := Y
    obtain ⟨_, _⟩ := M1
    obtain ⟨_, _⟩ := M2
    refine sim_mk tab_ok Tryd.func4 rfl (by kernel_rfl) rfl ⟨Nat.le_of_ble_eq_true rfl, Nat.le_of_ble_eq_true rfl⟩ ?_
    repeat' ((conv => whnf); first
      | with_reducible refine CallX.data ?_
      | refine CallE.mk _ _ (known7_sim) ?_
      | refine CallE.mk _ _ (sf) ?_
      | with_reducible refine Br.dec (fun h => absurd h (by omega)) (fun _ => ?_)
      | refine CallE.mk _ _ (s1) ?_
      | refine CallE.mk _ _ (s2) ?_
      | refine CallE.mk _ _ (s3) ?_
      | refine CallE.mk _ _ (s4) ?_
      | refine CallE.mk _ _ (s5) ?_
      | refine CallE.mk _ _ (g1) ?_
      | refine CallE.mk _ _ (g2) ?_
      | refine CallE.mk _ _ (s7) ?_
      | refine CallE.mk _ _ (o1) ?_
      | refine CallE.mk _ _ (o2) ?_
      | refine CallE.mk _ _ (m1) ?_
      | refine CallE.mk _ _ (m2) ?_
      | refine CallE.mk _ _ (rofd_sim 1 (by decide) (by decide)) ?_
      | refine CallE.mk _ _ (p1) ?_
      | refine CallE.mk _ _ (p2) ?_
      | refine RegE.early (Cd.mk (show regOk _ _ _ _ = true by kernel_rfl) ?_)
      | refine Cd.mk rfl ?_
      | refine Br.t ?_
      | refine Br.f ?_
      | with_reducible refine Br.eqd ?_
      | with_reducible refine Br.eqb ?_
      | with_reducible refine Br.dec (fun _ => ?_) (fun _ => ?_)
      | with_reducible refine Br.ndec (fun _ => ?_) (fun _ => ?_)
      | refine Br.mk (fun _ => ?_) (fun _ => ?_)
      | refine NthE.mk _ rfl ?_
      | refine And.intro (fun _ => ?_) ?_
      | (refine TkE.fL ?_; (conv => whnf); fail_if_success (show forceL _ _))
      | refine TkE.mk _ rfl rfl ?_
      | refine Res.mk ?_
      | refine LateE.mk (by repeat first | exact True.intro | refine And.intro (by kernel_rfl) ?_) ?_
      | refine DsE.mk [] rfl ?_
      | refine LoopEnd.go _ _ ⟨.inl rfl, rfl, rfl, by first | rfl | (repeat first | exact all_nil _ | refine all_la _ _ _ _ _ ?_)⟩ ?_
      | ((with_reducible refine EqE.idW ?_); first | refine EqE.mk _ (wrap_in (by omega) (by omega)) ?_ | with_reducible refine EqE.mk _ (n_i64 _ (by omega)) ?_ | with_reducible refine EqE.mk _ (n_succ _ (by omega)) ?_ | refine EqE.mk _ (wrap_in (by omega) (by omega)) ?_ | refine EqE.mk _ rfl ?_)
      | ((with_reducible refine EqE.idM ?_); first | refine EqE.mk _ (n_rem8 _) ?_ | refine EqE.mk _ (n_rem60 _) ?_ | refine EqE.mk _ rfl ?_)
      | ((with_reducible refine EqE.idI ?_); first | refine EqE.mk _ (max_eq _ _) ?_ | refine EqE.mk _ (min_eq _ _) ?_)
      | ((with_reducible refine EqE.idS ?_); first | (refine EqE.fP ?_; (conv => whnf); fail_if_success (show forceL _ _)) | refine EqE.mk _ rfl ?_)
      | ((with_reducible refine EqE.idL ?_); first | refine EqE.mk _ (sl_own _ _ _ _ (by omega) (by omega) rfl) ?_ | refine EqE.mk _ rfl ?_)
      | refine EqE.mk _ rfl ?_
      | refine Cd.mk (Nat.le_of_ble_eq_true rfl) ?_
      | refine Cd.mk ⟨rfl, rfl⟩ ?_
      | refine Cd.mk (by first | omega | (simp only [length_limbs, length_la]; omega)) ?_
      | refine Cd.mk ?_ ?_)
    rfl
  · have ht := of_decide_eq_true ht
    rw [if_pos ht] at hI; cases hI
    obtain ⟨_, _⟩ := w
    obtain ⟨_, _⟩ := Y
    refine sim_mk tab_ok Tryd.func4 rfl (by kernel_rfl) rfl ⟨Nat.le_of_ble_eq_true rfl, Nat.le_of_ble_eq_true rfl⟩ ?_
    repeat' ((conv => whnf); first
      | with_reducible refine CallX.data ?_
      | refine CallE.mk _ _ (known7_sim) ?_
      | refine CallE.mk _ _ (sf) ?_
      | with_reducible refine Br.dec (fun h => absurd h (by omega)) (fun _ => ?_)
      | refine CallE.mk _ _ (s1) ?_
      | refine CallE.mk _ _ (s2) ?_
      | refine CallE.mk _ _ (s3) ?_
      | refine CallE.mk _ _ (s4) ?_
      | refine CallE.mk _ _ (s5) ?_
      | refine RegE.early (Cd.mk (show regOk _ _ _ _ = true by kernel_rfl) ?_)
      | refine Cd.mk rfl ?_
      | refine Br.t ?_
      | refine Br.f ?_
      | with_reducible refine Br.eqd ?_
      | with_reducible refine Br.eqb ?_
      | with_reducible refine Br.dec (fun _ => ?_) (fun _ => ?_)
      | with_reducible refine Br.ndec (fun _ => ?_) (fun _ => ?_)
      | refine Br.mk (fun _ => ?_) (fun _ => ?_)
      | refine NthE.mk _ rfl ?_
      | refine And.intro (fun _ => ?_) ?_
      | (refine TkE.fL ?_; (conv => whnf); fail_if_success (show forceL _ _))
      | refine TkE.mk _ rfl rfl ?_
      | refine Res.mk ?_
      | refine LateE.mk (by repeat first | exact True.intro | refine And.intro (by kernel_rfl) ?_) ?_
      | refine DsE.mk [] rfl ?_
      | refine LoopEnd.go _ _ ⟨.inl rfl, rfl, rfl, by first | rfl | (repeat first | exact all_nil _ | refine all_la _ _ _ _ _ ?_)⟩ ?_
      | ((with_reducible refine EqE.idW ?_); first | refine EqE.mk _ (wrap_in (by omega) (by omega)) ?_ | with_reducible refine EqE.mk _ (n_i64 _ (by omega)) ?_ | with_reducible refine EqE.mk _ (n_succ _ (by omega)) ?_ | refine EqE.mk _ (wrap_in (by omega) (by omega)) ?_ | refine EqE.mk _ rfl ?_)
      | ((with_reducible refine EqE.idM ?_); first | refine EqE.mk _ (n_rem8 _) ?_ | refine EqE.mk _ (n_rem60 _) ?_ | refine EqE.mk _ rfl ?_)
      | ((with_reducible refine EqE.idI ?_); first | refine EqE.mk _ (max_eq _ _) ?_ | refine EqE.mk _ (min_eq _ _) ?_)
      | ((with_reducible refine EqE.idS ?_); first | (refine EqE.fP ?_; (conv => whnf); fail_if_success (show forceL _ _)) | refine EqE.mk _ rfl ?_)
      | ((with_reducible refine EqE.idL ?_); first | refine EqE.mk _ (sl_own _ _ _ _ (by omega) (by omega) rfl) ?_ | refine EqE.mk _ rfl ?_)
      | refine EqE.mk _ rfl ?_
      | refine Cd.mk (Nat.le_of_ble_eq_true rfl) ?_
      | refine Cd.mk ⟨rfl, rfl⟩ ?_
      | refine Cd.mk (by first | omega | (simp only [length_limbs, length_la]; omega)) ?_
      | refine Cd.mk ?_ ?_)
    rfl
theorem realsigns_at (r : RC) (n m : Int) (h0 : 0 ≤ n) (h1 : n ≤ 255) (h2 : 0 ≤ m) (h3 : m ≤ 255) : Sim Tryd.prog G0 true 4 [.agg r.cells, .int .u8 n, .int .u8 m] (.bool true) := by
  obtain ⟨n, rfl⟩ := Int.eq_ofNat_of_zero_le h0
  obtain ⟨m, rfl⟩ := Int.eq_ofNat_of_zero_le h2
  exact realsigns_sim r n m (by omega) (by omega)
end Go.Ev.Ar

namespace Go.Ev.Ar
open Go Go.Ev Go.Proofs

theorem cxz : CxR (.agg [.bool false, sl [], .int .i64 0, .bool false, sl [], .int .i64 0]) (0, 0) := .mk dy0 dy0
theorem rlIn_o {z w : Cq} (hz : Hc 1000000 z) (hw : Hc 1000000 w) (oz : Ord z) (ow : Ord w) (h : iin z w) : Sim Tryd.prog G0 true 24 [cxD z, cxD w] (.bool true) :=
  rlIn_is (.of (hz.mono (by decide))) (.of (hw.mono (by decide))) hz hw (by rw [rof_self oz, rof_self ow]; exact decide_eq_true h)
set_option maxHeartbeats 4000000 in
theorem realless_sim (r s q : RC) (n : Nat) (hn : n < 256) : Sim Tryd.prog G0 true 5 [.agg r.cells, .agg s.cells, .agg q.cells, .int .u8 n] (.bool true) := by
  have sf := fewreal7_sim r
  have sg := fewreal7_sim s
  have sh := fewreal7_sim q
  have fr := few_cx (r := r)
  have fs := few_cx (r := s)
  have fq := few_cx (r := q)
  obtain ⟨b1, l1, e1, c1, k1, f1⟩ := r
  obtain ⟨b2, l2, e2, c2, k2, f2⟩ := s
  obtain ⟨b3, l3, e3, c3, k3, f3⟩ := q
  cases h1 : RC.few 10 1000 ⟨b1, l1, e1, c1, k1, f1⟩
  · rw [h1] at sf
    refine sim_mk tab_ok Tryd.func5 rfl (by kernel_rfl) rfl ⟨Nat.le_of_ble_eq_true rfl, Nat.le_of_ble_eq_true rfl⟩ ?_
    repeat' ((conv => whnf); first
      | with_reducible refine CallX.data ?_
      | refine CallE.mk _ _ (known7_sim) ?_
      | refine CallE.mk _ _ (sf) ?_
      | refine RegE.early (Cd.mk (show regOk _ _ _ _ = true by kernel_rfl) ?_)
      | refine Cd.mk rfl ?_
      | refine Br.t ?_
      | refine Br.f ?_
      | with_reducible refine Br.eqd ?_
      | with_reducible refine Br.eqb ?_
      | with_reducible refine Br.dec (fun _ => ?_) (fun _ => ?_)
      | with_reducible refine Br.ndec (fun _ => ?_) (fun _ => ?_)
      | refine Br.mk (fun _ => ?_) (fun _ => ?_)
      | refine NthE.mk _ rfl ?_
      | refine And.intro (fun _ => ?_) ?_
      | (refine TkE.fL ?_; (conv => whnf); fail_if_success (show forceL _ _))
      | refine TkE.mk _ rfl rfl ?_
      | refine Res.mk ?_
      | refine LateE.mk (by repeat first | exact True.intro | refine And.intro (by kernel_rfl) ?_) ?_
      | refine DsE.mk [] rfl ?_
      | refine LoopEnd.go _ _ ⟨.inl rfl, rfl, rfl, by first | rfl | (repeat first | exact all_nil _ | refine all_la _ _ _ _ _ ?_)⟩ ?_
      | ((with_reducible refine EqE.idW ?_); first | with_reducible refine EqE.mk _ (n_i64 _ (by omega)) ?_ | with_reducible refine EqE.mk _ (n_succ _ (by omega)) ?_ | refine EqE.mk _ (wrap_in (by omega) (by omega)) ?_ | refine EqE.mk _ rfl ?_)
      | ((with_reducible refine EqE.idM ?_); refine EqE.mk _ rfl ?_)
      | ((with_reducible refine EqE.idI ?_); first | refine EqE.mk _ (max_eq _ _) ?_ | refine EqE.mk _ (min_eq _ _) ?_)
      | ((with_reducible refine EqE.idS ?_); first | (refine EqE.fP ?_; (conv => whnf); fail_if_success (show forceL _ _)) | refine EqE.mk _ rfl ?_)
      | ((with_reducible refine EqE.idL ?_); first | refine EqE.mk _ (sl_own _ _ _ _ (by omega) (by omega) rfl) ?_ | refine EqE.mk _ rfl ?_)
      | refine EqE.mk _ rfl ?_
      | refine Cd.mk (Nat.le_of_ble_eq_true rfl) ?_
      | refine Cd.mk ⟨rfl, rfl⟩ ?_
      | refine Cd.mk (by first | omega | (simp only [length_limbs, length_la]; omega)) ?_
      | refine Cd.mk ?_ ?_)
    rfl
  rw [h1] at sf
  cases h2 : RC.few 10 1000 ⟨b2, l2, e2, c2, k2, f2⟩
  · rw [h2] at sg
    refine sim_mk tab_ok Tryd.func5 rfl (by kernel_rfl) rfl ⟨Nat.le_of_ble_eq_true rfl, Nat.le_of_ble_eq_true rfl⟩ ?_
    repeat' ((conv => whnf); first
      | with_reducible refine CallX.data ?_
      | refine CallE.mk _ _ (known7_sim) ?_
      | refine CallE.mk _ _ (sf) ?_
      | refine CallE.mk _ _ (sg) ?_
      | refine RegE.early (Cd.mk (show regOk _ _ _ _ = true by kernel_rfl) ?_)
      | refine Cd.mk rfl ?_
      | refine Br.t ?_
      | refine Br.f ?_
      | with_reducible refine Br.eqd ?_
      | with_reducible refine Br.eqb ?_
      | with_reducible refine Br.dec (fun _ => ?_) (fun _ => ?_)
      | with_reducible refine Br.ndec (fun _ => ?_) (fun _ => ?_)
      | refine Br.mk (fun _ => ?_) (fun _ => ?_)
      | refine NthE.mk _ rfl ?_
      | refine And.intro (fun _ => ?_) ?_
      | (refine TkE.fL ?_; (conv => whnf); fail_if_success (show forceL _ _))
      | refine TkE.mk _ rfl rfl ?_
      | refine Res.mk ?_
      | refine LateE.mk (by repeat first | exact True.intro | refine And.intro (by kernel_rfl) ?_) ?_
      | refine DsE.mk [] rfl ?_
      | refine LoopEnd.go _ _ ⟨.inl rfl, rfl, rfl, by first | rfl | (repeat first | exact all_nil _ | refine all_la _ _ _ _ _ ?_)⟩ ?_
      | ((with_reducible refine EqE.idW ?_); first | with_reducible refine EqE.mk _ (n_i64 _ (by omega)) ?_ | with_reducible refine EqE.mk _ (n_succ _ (by omega)) ?_ | refine EqE.mk _ (wrap_in (by omega) (by omega)) ?_ | refine EqE.mk _ rfl ?_)
      | ((with_reducible refine EqE.idM ?_); refine EqE.mk _ rfl ?_)
      | ((with_reducible refine EqE.idI ?_); first | refine EqE.mk _ (max_eq _ _) ?_ | refine EqE.mk _ (min_eq _ _) ?_)
      | ((with_reducible refine EqE.idS ?_); first | (refine EqE.fP ?_; (conv => whnf); fail_if_success (show forceL _ _)) | refine EqE.mk _ rfl ?_)
      | ((with_reducible refine EqE.idL ?_); first | refine EqE.mk _ (sl_own _ _ _ _ (by omega) (by omega) rfl) ?_ | refine EqE.mk _ rfl ?_)
      | refine EqE.mk _ rfl ?_
      | refine Cd.mk (Nat.le_of_ble_eq_true rfl) ?_
      | refine Cd.mk ⟨rfl, rfl⟩ ?_
      | refine Cd.mk (by first | omega | (simp only [length_limbs, length_la]; omega)) ?_
      | refine Cd.mk ?_ ?_)
    rfl
  rw [h2] at sg
  cases h3 : RC.few 10 1000 ⟨b3, l3, e3, c3, k3, f3⟩
  · rw [h3] at sh
    refine sim_mk tab_ok Tryd.func5 rfl (by kernel_rfl) rfl ⟨Nat.le_of_ble_eq_true rfl, Nat.le_of_ble_eq_true rfl⟩ ?_
    repeat' ((conv => whnf); first
      | with_reducible refine CallX.data ?_
      | refine CallE.mk _ _ (known7_sim) ?_
      | refine CallE.mk _ _ (sf) ?_
      | refine CallE.mk _ _ (sg) ?_
      | refine CallE.mk _ _ (sh) ?_
      | refine RegE.early (Cd.mk (show regOk _ _ _ _ = true by kernel_rfl) ?_)
      | refine Cd.mk rfl ?_
      | refine Br.t ?_
      | refine Br.f ?_
      | with_reducible refine Br.eqd ?_
      | with_reducible refine Br.eqb ?_
      | with_reducible refine Br.dec (fun _ => ?_) (fun _ => ?_)
      | with_reducible refine Br.ndec (fun _ => ?_) (fun _ => ?_)
      | refine Br.mk (fun _ => ?_) (fun _ => ?_)
      | refine NthE.mk _ rfl ?_
      | refine And.intro (fun _ => ?_) ?_
      | (refine TkE.fL ?_; (conv => whnf); fail_if_success (show forceL _ _))
      | refine TkE.mk _ rfl rfl ?_
      | refine Res.mk ?_
      | refine LateE.mk (by repeat first | exact True.intro | refine And.intro (by kernel_rfl) ?_) ?_
      | refine DsE.mk [] rfl ?_
      | refine LoopEnd.go _ _ ⟨.inl rfl, rfl, rfl, by first | rfl | (repeat first | exact all_nil _ | refine all_la _ _ _ _ _ ?_)⟩ ?_
      | ((with_reducible refine EqE.idW ?_); first | with_reducible refine EqE.mk _ (n_i64 _ (by omega)) ?_ | with_reducible refine EqE.mk _ (n_succ _ (by omega)) ?_ | refine EqE.mk _ (wrap_in (by omega) (by omega)) ?_ | refine EqE.mk _ rfl ?_)
      | ((with_reducible refine EqE.idM ?_); refine EqE.mk _ rfl ?_)
      | ((with_reducible refine EqE.idI ?_); first | refine EqE.mk _ (max_eq _ _) ?_ | refine EqE.mk _ (min_eq _ _) ?_)
      | ((with_reducible refine EqE.idS ?_); first | (refine EqE.fP ?_; (conv => whnf); fail_if_success (show forceL _ _)) | refine EqE.mk _ rfl ?_)
      | ((with_reducible refine EqE.idL ?_); first | refine EqE.mk _ (sl_own _ _ _ _ (by omega) (by omega) rfl) ?_ | refine EqE.mk _ rfl ?_)
      | refine EqE.mk _ rfl ?_
      | refine Cd.mk (Nat.le_of_ble_eq_true rfl) ?_
      | refine Cd.mk ⟨rfl, rfl⟩ ?_
      | refine Cd.mk (by first | omega | (simp only [length_limbs, length_la]; omega)) ?_
      | refine Cd.mk ?_ ?_)
    rfl
  rw [h3] at sh
  obtain ⟨xr, _, xh⟩ := fr h1
  obtain ⟨yr, _, yh⟩ := fs h2
  obtain ⟨zr, _, zh⟩ := fq h3
  generalize RC.val ⟨b1, l1, e1, c1, k1, f1⟩ = x at xr xh
  generalize RC.val ⟨b2, l2, e2, c2, k2, f2⟩ = y at yr yh
  generalize RC.val ⟨b3, l3, e3, c3, k3, f3⟩ = z at zr zh
  have ox := rof_ord x
  have oy := rof_ord y
  have oz := rof_ord z
  have hx := xh.rof
  have hy := yh.rof
  have hz := zh.rof
  obtain ⟨⟨w, t⟩, hm⟩ : ∃ m, imeet (rof x) (rof y) = m := ⟨_, rfl⟩
  have m1 := rlMeet_is xr yr (xh.mono (by decide)) (yh.mono (by decide)) hm
  have hw : Hc 1320 w := by have := hx.imeet hy; rw [hm] at this; exact this
  cases t
  · obtain ⟨rfl, hno⟩ := imeet_no ox hm
    have s1 := rlIn_is xr yr (xh.mono (by decide)) (yh.mono (by decide)) (decide_eq_false hno)
    have s2 := rlSame_is (t := true) (.of (hw.mono (by decide))) cxz (hw.mono (by decide)) (.zero _) (by decide)
    refine sim_mk tab_ok Tryd.func5 rfl (by kernel_rfl) rfl ⟨Nat.le_of_ble_eq_true rfl, Nat.le_of_ble_eq_true rfl⟩ ?_
    repeat' ((conv => whnf); first
      | with_reducible refine CallX.data ?_
      | refine CallE.mk _ _ (known7_sim) ?_
      | refine CallE.mk _ _ (sf) ?_
      | refine CallE.mk _ _ (sg) ?_
      | refine CallE.mk _ _ (sh) ?_
      | refine CallE.mk _ _ (m1) ?_
      | refine CallE.mk _ _ (s1) ?_
      | refine CallE.mk _ _ (s2) ?_
      | refine RegE.early (Cd.mk (show regOk _ _ _ _ = true by kernel_rfl) ?_)
      | refine Cd.mk rfl ?_
      | refine Br.t ?_
      | refine Br.f ?_
      | with_reducible refine Br.eqd ?_
      | with_reducible refine Br.eqb ?_
      | with_reducible refine Br.dec (fun _ => ?_) (fun _ => ?_)
      | with_reducible refine Br.ndec (fun _ => ?_) (fun _ => ?_)
      | refine Br.mk (fun _ => ?_) (fun _ => ?_)
      | refine NthE.mk _ rfl ?_
      | refine And.intro (fun _ => ?_) ?_
      | (refine TkE.fL ?_; (conv => whnf); fail_if_success (show forceL _ _))
      | refine TkE.mk _ rfl rfl ?_
      | refine Res.mk ?_
      | refine LateE.mk (by repeat first | exact True.intro | refine And.intro (by kernel_rfl) ?_) ?_
      | refine DsE.mk [] rfl ?_
      | refine LoopEnd.go _ _ ⟨.inl rfl, rfl, rfl, by first | rfl | (repeat first | exact all_nil _ | refine all_la _ _ _ _ _ ?_)⟩ ?_
      | ((with_reducible refine EqE.idW ?_); first | with_reducible refine EqE.mk _ (n_i64 _ (by omega)) ?_ | with_reducible refine EqE.mk _ (n_succ _ (by omega)) ?_ | refine EqE.mk _ (wrap_in (by omega) (by omega)) ?_ | refine EqE.mk _ rfl ?_)
      | ((with_reducible refine EqE.idM ?_); refine EqE.mk _ rfl ?_)
      | ((with_reducible refine EqE.idI ?_); first | refine EqE.mk _ (max_eq _ _) ?_ | refine EqE.mk _ (min_eq _ _) ?_)
      | ((with_reducible refine EqE.idS ?_); first | (refine EqE.fP ?_; (conv => whnf); fail_if_success (show forceL _ _)) | refine EqE.mk _ rfl ?_)
      | ((with_reducible refine EqE.idL ?_); first | refine EqE.mk _ (sl_own _ _ _ _ (by omega) (by omega) rfl) ?_ | refine EqE.mk _ rfl ?_)
      | refine EqE.mk _ rfl ?_
      | refine Cd.mk (Nat.le_of_ble_eq_true rfl) ?_
      | refine Cd.mk ⟨rfl, rfl⟩ ?_
      | refine Cd.mk (by first | omega | (simp only [length_limbs, length_la]; omega)) ?_
      | refine Cd.mk ?_ ?_)
    rfl
  obtain ⟨ow, wx, wy⟩ := imeet_in hm
  have wr := CxR.of (hw.mono (show 1320 ≤ 1048576 by decide))
  have ew := rof_self ow
  have K6 : clampP ((n % 6 : Nat) : Int) ≤ 5 := by unfold clampP; omega
  have i1 := rlIn_is wr xr (hw.mono (by decide)) (xh.mono (by decide)) (decide_eq_true (by rw [ew]; exact wx))
  have i2 := rlIn_is wr yr (hw.mono (by decide)) (yh.mono (by decide)) (decide_eq_true (by rw [ew]; exact wy))
  have a1 := rlAdd_is (r := iadd w (rof z)) wr zr (hw.mono (by decide)) (zh.mono (by decide)) (by rw [ew])
  have a2 := rlAdd_is (r := iadd (rof x) (rof z)) xr zr (xh.mono (by decide)) (zh.mono (by decide)) rfl
  have i3 := rlIn_o ((hw.iadd hz (c := 1321) (by decide)).mono (by decide)) ((hx.iadd hz (c := 1321) (by decide)).mono (by decide)) (iadd_ord ow oz) (iadd_ord ox oz) (iin_add _ wx)
  have b1' := rlMul_is (r := imul w (rof z)) wr zr (hw.mono (by decide)) (zh.mono (by decide)) (imul_rof2 _ _).symm
  have b2' := rlMul_is (r := imul (rof x) (rof z)) xr zr (xh.mono (by decide)) (zh.mono (by decide)) (by rw [imul_rof, imul_rof2])
  have i4 := rlIn_o ((hw.imul hz (c := 2640) (by decide)).mono (by decide)) ((hx.imul hz (c := 2640) (by decide)).mono (by decide)) (imul_ord _ _) (imul_ord _ _) (iin_mul ow oz wx (iin_refl _))
  have p1 := rlPow_is (r := ipow w ((n % 6 : Nat) : Int)) ((n % 6 : Nat) : Int) wr (hw.mono (by decide)) (by rw [ew])
  have p2 := rlPow_is ((n % 6 : Nat) : Int) xr (xh.mono (by decide)) rfl
  have i5 := rlIn_o ((hw.ipow _ K6 (c := 6601) (by decide)).mono (by decide)) ((hx.ipow _ K6 (c := 6601) (by decide)).mono (by decide)) (ipow_ord ((n % 6 : Nat) : Int) ow) (ipow_ord _ ox) (iin_pow _ ow wx)
  have ab1 := rlAbs_is (r := iabs w) wr (hw.mono (by decide)) (by rw [ew])
  have ab2 := rlAbs_is xr (xh.mono (by decide)) rfl
  have i6 := rlIn_o (hw.iabs.mono (by decide)) (hx.iabs.mono (by decide)) (iabs_ord ow) (iabs_ord ox) (iin_abs ow wx)
  have n1 := rlNeg_is (r := ineg w) wr (hw.mono (by decide)) (by rw [ew])
  have n2 := rlNeg_is yr (yh.mono (by decide)) rfl
  have i7 := rlIn_o (hw.ineg.mono (by decide)) (hy.ineg.mono (by decide)) (ineg_ord ow) (ineg_ord oy) (iin_neg wy)
  have d1 := rlSub_is (r := isub (rof z) w) zr wr (zh.mono (by decide)) (hw.mono (by decide)) (by rw [ew])
  have d2 := rlSub_is zr xr (zh.mono (by decide)) (xh.mono (by decide)) rfl
  have i8 := rlIn_o ((hz.isub hw (c := 1321) (by decide)).mono (by decide)) ((hz.isub hx (c := 1321) (by decide)).mono (by decide)) (isub_ord oz ow) (isub_ord oz ox) (iin_sub _ wx)
  have u1 := rlHull_is (r := ihull w (rof z)) wr zr (hw.mono (by decide)) (zh.mono (by decide)) (by rw [ew])
  have u2 := rlHull_is xr zr (xh.mono (by decide)) (zh.mono (by decide)) rfl
  have i9 := rlIn_o ((hw.ihull hz).mono (by decide)) ((hx.ihull hz).mono (by decide)) (ihull_ord ow oz) (ihull_ord ox oz) (iin_hull _ wx)
  generalize iadd w (rof z) = A1 at *
  generalize iadd (rof x) (rof z) = A2 at *
  generalize imul w (rof z) = B1 at *
  generalize imul (rof x) (rof z) = B2 at *
  generalize ipow w ((n % 6 : Nat) : Int) = P1 at *
  generalize ipow (rof x) ((n % 6 : Nat) : Int) = P2 at *
  generalize iabs w = C1 at *
  generalize iabs (rof x) = C2 at *
  generalize ineg w = N1 at *
  generalize ineg (rof y) = N2 at *
  generalize isub (rof z) w = D1 at *
  generalize isub (rof z) (rof x) = D2 at *
  generalize ihull w (rof z) = U1 at *
  generalize ihull (rof x) (rof z) = U2 at *
  obtain ⟨_, _⟩ := w
  obtain ⟨_, _⟩ := A1
  obtain ⟨_, _⟩ := A2
  obtain ⟨_, _⟩ := B1
  obtain ⟨_, _⟩ := B2
  obtain ⟨_, _⟩ := P1
  obtain ⟨_, _⟩ := P2
  obtain ⟨_, _⟩ := C1
  obtain ⟨_, _⟩ := C2
  obtain ⟨_, _⟩ := N1
  obtain ⟨_, _⟩ := N2
  obtain ⟨_, _⟩ := D1
  obtain ⟨_, _⟩ := D2
  obtain ⟨_, _⟩ := U1
  obtain ⟨_, _⟩ := U2
  refine sim_mk tab_ok Tryd.func5 rfl (by kernel_rfl) rfl ⟨Nat.le_of_ble_eq_true rfl, Nat.le_of_ble_eq_true rfl⟩ ?_
  repeat' ((conv => whnf); first
    | with_reducible refine CallX.data ?_
    | refine CallE.mk _ _ (known7_sim) ?_
    | refine CallE.mk _ _ (sf) ?_
    | refine CallE.mk _ _ (sg) ?_
    | refine CallE.mk _ _ (sh) ?_
    | refine CallE.mk _ _ (m1) ?_
    | refine CallE.mk _ _ (i1) ?_
    | refine CallE.mk _ _ (i2) ?_
    | refine CallE.mk _ _ (a1) ?_
    | refine CallE.mk _ _ (a2) ?_
    | refine CallE.mk _ _ (i3) ?_
    | refine CallE.mk _ _ (b1') ?_
    | refine CallE.mk _ _ (b2') ?_
    | refine CallE.mk _ _ (i4) ?_
    | refine CallE.mk _ _ (p1) ?_
    | refine CallE.mk _ _ (p2) ?_
    | refine CallE.mk _ _ (i5) ?_
    | refine CallE.mk _ _ (ab1) ?_
    | refine CallE.mk _ _ (ab2) ?_
    | refine CallE.mk _ _ (i6) ?_
    | refine CallE.mk _ _ (n1) ?_
    | refine CallE.mk _ _ (n2) ?_
    | refine CallE.mk _ _ (i7) ?_
    | refine CallE.mk _ _ (d1) ?_
    | refine CallE.mk _ _ (d2) ?_
    | refine CallE.mk _ _ (i8) ?_
    | refine CallE.mk _ _ (u1) ?_
    | refine CallE.mk _ _ (u2) ?_
    | refine CallE.mk _ _ (i9) ?_
    | refine RegE.early (Cd.mk (show regOk _ _ _ _ = true by kernel_rfl) ?_)
    | refine Cd.mk rfl ?_
    | refine Br.t ?_
    | refine Br.f ?_
    | with_reducible refine Br.eqd ?_
    | with_reducible refine Br.eqb ?_
    | with_reducible refine Br.dec (fun _ => ?_) (fun _ => ?_)
    | with_reducible refine Br.ndec (fun _ => ?_) (fun _ => ?_)
    | refine Br.mk (fun _ => ?_) (fun _ => ?_)
    | refine NthE.mk _ rfl ?_
    | refine And.intro (fun _ => ?_) ?_
    | (refine TkE.fL ?_; (conv => whnf); fail_if_success (show forceL _ _))
    | refine TkE.mk _ rfl rfl ?_
    | refine Res.mk ?_
    | refine LateE.mk (by repeat first | exact True.intro | refine And.intro (by kernel_rfl) ?_) ?_
    | refine DsE.mk [] rfl ?_
    | refine LoopEnd.go _ _ ⟨.inl rfl, rfl, rfl, by first | rfl | (repeat first | exact all_nil _ | refine all_la _ _ _ _ _ ?_)⟩ ?_
    | ((with_reducible refine EqE.idW ?_); first | refine EqE.mk _ (wrap_in (by omega) (by omega)) ?_ | with_reducible refine EqE.mk _ (n_i64 _ (by omega)) ?_ | with_reducible refine EqE.mk _ (n_succ _ (by omega)) ?_ | refine EqE.mk _ (wrap_in (by omega) (by omega)) ?_ | refine EqE.mk _ rfl ?_)
    | ((with_reducible refine EqE.idM ?_); first | refine EqE.mk _ (n_rem6 _) ?_ | refine EqE.mk _ rfl ?_)
    | ((with_reducible refine EqE.idI ?_); first | refine EqE.mk _ (max_eq _ _) ?_ | refine EqE.mk _ (min_eq _ _) ?_)
    | ((with_reducible refine EqE.idS ?_); first | (refine EqE.fP ?_; (conv => whnf); fail_if_success (show forceL _ _)) | refine EqE.mk _ rfl ?_)
    | ((with_reducible refine EqE.idL ?_); first | refine EqE.mk _ (sl_own _ _ _ _ (by omega) (by omega) rfl) ?_ | refine EqE.mk _ rfl ?_)
    | refine EqE.mk _ rfl ?_
    | refine Cd.mk (Nat.le_of_ble_eq_true rfl) ?_
    | refine Cd.mk ⟨rfl, rfl⟩ ?_
    | refine Cd.mk (by first | omega | (simp only [length_limbs, length_la]; omega)) ?_
    | refine Cd.mk ?_ ?_)
  rfl
theorem realless_at (r s q : RC) (n : Int) (h0 : 0 ≤ n) (h1 : n ≤ 255) : Sim Tryd.prog G0 true 5 [.agg r.cells, .agg s.cells, .agg q.cells, .int .u8 n] (.bool true) := by
  obtain ⟨n, rfl⟩ := Int.eq_ofNat_of_zero_le h0
  exact realless_sim r s q n (by omega)
end Go.Ev.Ar

namespace Go.Ev.Ar
open Go Go.Ev Go.Proofs

theorem mn_self (p : Dyadic) : mn p p = p := by unfold mn; split <;> rfl
theorem mx_self (p : Dyadic) : mx p p = p := by unfold mx; split <;> rfl
theorem imul_pt (a b : Dyadic) : imul (a, a) (b, b) = (a * b, a * b) := by unfold imul; dsimp only; rw [mn_self, mn_self, mx_self, mx_self]
theorem rof_pt (a : Dyadic) : rof (a, a) = (a, a) := by unfold rof; dsimp only; rw [mn_self, mx_self]
theorem iabs_pt_pow (a : Dyadic) (n : Int) : ipow (a, a) n = (a ^ clampP n, a ^ clampP n) := by
  unfold ipow
  split
  · rename_i h
    have e : iabs (a, a) = (dabs a, dabs a) := by
      unfold iabs; dsimp only
      split
      · rename_i g
        have : a = 0 := by grind
        subst this
        rw [mx_self]; rfl
      · rw [mn_self, mx_self]
    rw [e]; dsimp only
    rw [dpow_even a h]
  · rfl
theorem mn_pow {a b : Dyadic} {n : Nat} (h : n % 2 = 1) : mn a b ^ n = mn (a ^ n) (b ^ n) ∧ mx a b ^ n = mx (a ^ n) (b ^ n) := by
  rcases Classical.em (a ≤ b) with c | c
  · have h1 := dpow_odd_mono c h
    constructor
    · unfold mn; rw [if_pos c, if_pos h1]
    · unfold mx
      by_cases d : b ≤ a
      · have : a = b := by grind
        subst this; rw [if_pos c, if_pos h1]
      · rw [if_neg d]; split <;> grind
  · have c : b ≤ a := by grind
    have h1 := dpow_odd_mono c h
    constructor
    · unfold mn
      by_cases d : a ≤ b
      · have : a = b := by grind
        subst this; rw [if_pos c, if_pos h1]
      · rw [if_neg d]; split <;> grind
    · unfold mx; rw [if_pos c, if_pos h1]
theorem hull_pow (z : Cq) {n : Int} (h : clampP n % 2 = 1) : ihull (ipow (z.1, z.1) n) (ipow (z.2, z.2) n) = ipow (rof z) n := by
  rw [iabs_pt_pow, iabs_pt_pow]
  unfold ipow ihull rof; dsimp only
  rw [if_neg (by omega), (mn_pow h).1, (mn_pow h).2]
/-- The products of ends, one by one. -/
def pe (z w : Cq) : Nat → Dyadic
  | 0 => z.1 * w.1
  | 1 => z.1 * w.2
  | 2 => z.2 * w.1
  | _ => z.2 * w.2
/-- Is one of the first i of them that number? -/
def reach (z w : Cq) (d : Dyadic) : Nat → Bool
  | 0 => false
  | i + 1 => reach z w d i || decide (pe z w i = d)
theorem reach_all (z w : Cq) {d : Dyadic} (h : d = z.1 * w.1 ∨ d = z.1 * w.2 ∨ d = z.2 * w.1 ∨ d = z.2 * w.2) : reach z w d 4 = true := by
  simp only [reach, pe, Bool.false_or, Bool.or_eq_true, decide_eq_true_eq]
  rcases h with h | h | h | h <;> simp [h]
theorem mn4 (a b c d : Dyadic) : mn (mn a b) (mn c d) = a ∨ mn (mn a b) (mn c d) = b ∨ mn (mn a b) (mn c d) = c ∨ mn (mn a b) (mn c d) = d := by unfold mn; grind
theorem mx4 (a b c d : Dyadic) : mx (mx a b) (mx c d) = a ∨ mx (mx a b) (mx c d) = b ∨ mx (mx a b) (mx c d) = c ∨ mx (mx a b) (mx c d) = d := by unfold mx; grind
theorem reach_end (z w : Cq) : reach z w (imul z w).1 4 = true ∧ reach z w (imul z w).2 4 = true := ⟨reach_all z w (mn4 _ _ _ _), reach_all z w (mx4 _ _ _ _)⟩
theorem pe_in (z w : Cq) (i : Nat) : iin (pe z w i, pe z w i) (imul z w) := by
  have h1 : ihas (rof z) z.1 := by unfold ihas rof; dsimp only; exact ⟨mn_le_l _ _, le_mx_l _ _⟩
  have h2 : ihas (rof z) z.2 := by unfold ihas rof; dsimp only; exact ⟨mn_le_r _ _, le_mx_r _ _⟩
  have g1 : ihas (rof w) w.1 := by unfold ihas rof; dsimp only; exact ⟨mn_le_l _ _, le_mx_l _ _⟩
  have g2 : ihas (rof w) w.2 := by unfold ihas rof; dsimp only; exact ⟨mn_le_r _ _, le_mx_r _ _⟩
  have e : imul (rof z) (rof w) = imul z w := by rw [imul_rof, imul_rof2]
  rw [← e]
  unfold pe
  split
  · exact iin_of_ends (ihas_mul h1 g1) (ihas_mul h1 g1)
  · exact iin_of_ends (ihas_mul h1 g2) (ihas_mul h1 g2)
  · exact iin_of_ends (ihas_mul h2 g1) (ihas_mul h2 g1)
  · exact iin_of_ends (ihas_mul h2 g2) (ihas_mul h2 g2)
set_option maxHeartbeats 8000000 in
theorem realends_sim (r s : RC) (n : Nat) (hn : n < 256) : Sim Tryd.prog G0 true 6 [.agg r.cells, .agg s.cells, .int .u8 n] (.bool true) := by
  have sf := fewreal7_sim r
  have sg := fewreal7_sim s
  have fr := few_cx (r := r)
  have fs := few_cx (r := s)
  obtain ⟨b1, l1, e1, c1, k1, f1⟩ := r
  obtain ⟨b2, l2, e2, c2, k2, f2⟩ := s
  cases h1 : RC.few 10 1000 ⟨b1, l1, e1, c1, k1, f1⟩
  · rw [h1] at sf
    refine sim_mk tab_ok Tryd.func6 rfl (by kernel_rfl) rfl ⟨Nat.le_of_ble_eq_true rfl, Nat.le_of_ble_eq_true rfl⟩ ?_
    repeat' ((conv => whnf); first
      | with_reducible refine CallX.data ?_
      | refine CallE.mk _ _ (known7_sim) ?_
      | refine CallE.mk _ _ (sf) ?_
      | refine RegE.early (Cd.mk (show regOk _ _ _ _ = true by kernel_rfl) ?_)
      | refine Cd.mk rfl ?_
      | refine Br.t ?_
      | refine Br.f ?_
      | with_reducible refine Br.eqd ?_
      | with_reducible refine Br.eqb ?_
      | with_reducible refine Br.dec (fun _ => ?_) (fun _ => ?_)
      | with_reducible refine Br.ndec (fun _ => ?_) (fun _ => ?_)
      | refine Br.mk (fun _ => ?_) (fun _ => ?_)
      | refine NthE.mk _ rfl ?_
      | refine And.intro (fun _ => ?_) ?_
      | (refine TkE.fL ?_; (conv => whnf); fail_if_success (show forceL _ _))
      | refine TkE.mk _ rfl rfl ?_
      | refine Res.mk ?_
      | refine LateE.mk (by repeat first | exact True.intro | refine And.intro (by kernel_rfl) ?_) ?_
      | refine DsE.mk [] rfl ?_
      | refine LoopEnd.go _ _ ⟨.inl rfl, rfl, rfl, by first | rfl | (repeat first | exact all_nil _ | refine all_la _ _ _ _ _ ?_)⟩ ?_
      | ((with_reducible refine EqE.idW ?_); first | with_reducible refine EqE.mk _ (n_i64 _ (by omega)) ?_ | with_reducible refine EqE.mk _ (n_succ _ (by omega)) ?_ | refine EqE.mk _ (wrap_in (by omega) (by omega)) ?_ | refine EqE.mk _ rfl ?_)
      | ((with_reducible refine EqE.idM ?_); refine EqE.mk _ rfl ?_)
      | ((with_reducible refine EqE.idI ?_); first | refine EqE.mk _ (max_eq _ _) ?_ | refine EqE.mk _ (min_eq _ _) ?_)
      | ((with_reducible refine EqE.idS ?_); first | (refine EqE.fP ?_; (conv => whnf); fail_if_success (show forceL _ _)) | refine EqE.mk _ rfl ?_)
      | ((with_reducible refine EqE.idL ?_); first | refine EqE.mk _ (sl_own _ _ _ _ (by omega) (by omega) rfl) ?_ | refine EqE.mk _ rfl ?_)
      | refine EqE.mk _ rfl ?_
      | refine Cd.mk (Nat.le_of_ble_eq_true rfl) ?_
      | refine Cd.mk ⟨rfl, rfl⟩ ?_
      | refine Cd.mk (by first | omega | (simp only [length_limbs, length_la]; omega)) ?_
      | refine Cd.mk ?_ ?_)
    rfl
  rw [h1] at sf
  cases h2 : RC.few 10 1000 ⟨b2, l2, e2, c2, k2, f2⟩
  · rw [h2] at sg
    refine sim_mk tab_ok Tryd.func6 rfl (by kernel_rfl) rfl ⟨Nat.le_of_ble_eq_true rfl, Nat.le_of_ble_eq_true rfl⟩ ?_
    repeat' ((conv => whnf); first
      | with_reducible refine CallX.data ?_
      | refine CallE.mk _ _ (known7_sim) ?_
      | refine CallE.mk _ _ (sf) ?_
      | refine CallE.mk _ _ (sg) ?_
      | refine RegE.early (Cd.mk (show regOk _ _ _ _ = true by kernel_rfl) ?_)
      | refine Cd.mk rfl ?_
      | refine Br.t ?_
      | refine Br.f ?_
      | with_reducible refine Br.eqd ?_
      | with_reducible refine Br.eqb ?_
      | with_reducible refine Br.dec (fun _ => ?_) (fun _ => ?_)
      | with_reducible refine Br.ndec (fun _ => ?_) (fun _ => ?_)
      | refine Br.mk (fun _ => ?_) (fun _ => ?_)
      | refine NthE.mk _ rfl ?_
      | refine And.intro (fun _ => ?_) ?_
      | (refine TkE.fL ?_; (conv => whnf); fail_if_success (show forceL _ _))
      | refine TkE.mk _ rfl rfl ?_
      | refine Res.mk ?_
      | refine LateE.mk (by repeat first | exact True.intro | refine And.intro (by kernel_rfl) ?_) ?_
      | refine DsE.mk [] rfl ?_
      | refine LoopEnd.go _ _ ⟨.inl rfl, rfl, rfl, by first | rfl | (repeat first | exact all_nil _ | refine all_la _ _ _ _ _ ?_)⟩ ?_
      | ((with_reducible refine EqE.idW ?_); first | with_reducible refine EqE.mk _ (n_i64 _ (by omega)) ?_ | with_reducible refine EqE.mk _ (n_succ _ (by omega)) ?_ | refine EqE.mk _ (wrap_in (by omega) (by omega)) ?_ | refine EqE.mk _ rfl ?_)
      | ((with_reducible refine EqE.idM ?_); refine EqE.mk _ rfl ?_)
      | ((with_reducible refine EqE.idI ?_); first | refine EqE.mk _ (max_eq _ _) ?_ | refine EqE.mk _ (min_eq _ _) ?_)
      | ((with_reducible refine EqE.idS ?_); first | (refine EqE.fP ?_; (conv => whnf); fail_if_success (show forceL _ _)) | refine EqE.mk _ rfl ?_)
      | ((with_reducible refine EqE.idL ?_); first | refine EqE.mk _ (sl_own _ _ _ _ (by omega) (by omega) rfl) ?_ | refine EqE.mk _ rfl ?_)
      | refine EqE.mk _ rfl ?_
      | refine Cd.mk (Nat.le_of_ble_eq_true rfl) ?_
      | refine Cd.mk ⟨rfl, rfl⟩ ?_
      | refine Cd.mk (by first | omega | (simp only [length_limbs, length_la]; omega)) ?_
      | refine Cd.mk ?_ ?_)
    rfl
  rw [h2] at sg
  obtain ⟨xr, _, xh⟩ := fr h1
  obtain ⟨yr, _, yh⟩ := fs h2
  have hx1 : DyR (.agg [.bool b1, sl l1, .int .i64 e1]) (dof (zv b1 l1) e1) := dyR_few (n := 10) (b := 1000) (by decide) (by decide) (RC.few_iff.1 h1).1
  have hx2 : DyR (.agg [.bool c1, sl k1, .int .i64 f1]) (dof (zv c1 k1) f1) := dyR_few (n := 10) (b := 1000) (by decide) (by decide) (RC.few_iff.1 h1).2
  have hy1 : DyR (.agg [.bool b2, sl l2, .int .i64 e2]) (dof (zv b2 l2) e2) := dyR_few (n := 10) (b := 1000) (by decide) (by decide) (RC.few_iff.1 h2).1
  have hy2 : DyR (.agg [.bool c2, sl k2, .int .i64 f2]) (dof (zv c2 k2) f2) := dyR_few (n := 10) (b := 1000) (by decide) (by decide) (RC.few_iff.1 h2).2
  change CxR (.agg [.bool b1, sl l1, .int .i64 e1, .bool c1, sl k1, .int .i64 f1]) (dof (zv b1 l1) e1, dof (zv c1 k1) f1) at xr
  change CxR (.agg [.bool b2, sl l2, .int .i64 e2, .bool c2, sl k2, .int .i64 f2]) (dof (zv b2 l2) e2, dof (zv c2 k2) f2) at yr
  change Hc 1320 (dof (zv b1 l1) e1, dof (zv c1 k1) f1) at xh
  change Hc 1320 (dof (zv b2 l2) e2, dof (zv c2 k2) f2) at yh
  generalize dof (zv b1 l1) e1 = x1 at *
  generalize dof (zv c1 k1) f1 = x2 at *
  generalize dof (zv b2 l2) e2 = y1 at *
  generalize dof (zv c2 k2) f2 = y2 at *
  have ox := rof_ord (x1, x2)
  have oy := rof_ord (y1, y2)
  have hx := xh.rof
  have hy := yh.rof
  obtain ⟨M, hM⟩ : ∃ M, imul (x1, x2) (y1, y2) = M := ⟨_, rfl⟩
  have hMt : Hc 2640 M := hM ▸ xh.imul yh (by decide)
  have oM : Ord M := hM ▸ imul_ord (x1, x2) (y1, y2)
  have m1 := rlMul_is xr yr (xh.mono (by decide)) (yh.mono (by decide)) hM
  have hpt : ∀ i, Ht 2640 (pe (x1, x2) (y1, y2) i) := fun i => by
    unfold pe; split
    · exact xh.1.mul yh.1 (by decide)
    · exact xh.1.mul yh.2 (by decide)
    · exact xh.2.mul yh.1 (by decide)
    · exact xh.2.mul yh.2 (by decide)
  obtain ⟨K, hK⟩ : ∃ K : Int, K = ((n % 5 : Nat) : Int) * 2 + 1 := ⟨_, rfl⟩
  have K5 : clampP K % 2 = 1 := by rw [hK]; unfold clampP; omega
  have K9 : clampP K ≤ 9 := by rw [hK]; unfold clampP; omega
  have o1 := rlOf_is hx1 (xh.1.mono (by decide))
  have o2 := rlOf_is hx2 (xh.2.mono (by decide))
  have o3 := rlOf_is hy1 (yh.1.mono (by decide))
  have o4 := rlOf_is hy2 (yh.2.mono (by decide))
  have d1 : Hc 1320 (x1, x1) := ⟨xh.1, xh.1⟩
  have d2 : Hc 1320 (x2, x2) := ⟨xh.2, xh.2⟩
  have d3 : Hc 1320 (y1, y1) := ⟨yh.1, yh.1⟩
  have d4 : Hc 1320 (y2, y2) := ⟨yh.2, yh.2⟩
  have q0 := rlMul_is (r := (pe (x1, x2) (y1, y2) 0, pe (x1, x2) (y1, y2) 0)) (.of (d1.mono (by decide))) (.of (d3.mono (by decide))) (d1.mono (by decide)) (d3.mono (by decide)) (imul_pt _ _)
  have q1 := rlMul_is (r := (pe (x1, x2) (y1, y2) 1, pe (x1, x2) (y1, y2) 1)) (.of (d1.mono (by decide))) (.of (d4.mono (by decide))) (d1.mono (by decide)) (d4.mono (by decide)) (imul_pt _ _)
  have q2 := rlMul_is (r := (pe (x1, x2) (y1, y2) 2, pe (x1, x2) (y1, y2) 2)) (.of (d2.mono (by decide))) (.of (d3.mono (by decide))) (d2.mono (by decide)) (d3.mono (by decide)) (imul_pt _ _)
  have q3 := rlMul_is (r := (pe (x1, x2) (y1, y2) 3, pe (x1, x2) (y1, y2) 3)) (.of (d2.mono (by decide))) (.of (d4.mono (by decide))) (d2.mono (by decide)) (d4.mono (by decide)) (imul_pt _ _)
  have iN : ∀ i, Sim Tryd.prog G0 true 24 [cxD (pe (x1, x2) (y1, y2) i, pe (x1, x2) (y1, y2) i), cxD M] (.bool true) := fun i => rlIn_o ⟨(hpt i).mono (by decide), (hpt i).mono (by decide)⟩ (hMt.mono (by decide)) (by unfold Ord; grind) oM (hM ▸ pe_in (x1, x2) (y1, y2) i)
  have eQ : ∀ i, Sim Tryd.prog G0 true 31 [dyD (pe (x1, x2) (y1, y2) i), dyD (pe (x1, x2) (y1, y2) i)] (.bool true) := fun i => rEq_is ((hpt i).mono (by decide)) ((hpt i).mono (by decide)) (decide_eq_true rfl)
  have eL : ∀ i t, decide (pe (x1, x2) (y1, y2) i = M.1) = t → Sim Tryd.prog G0 true 31 [dyD (pe (x1, x2) (y1, y2) i), dyD M.1] (.bool t) := fun i t h => rEq_is ((hpt i).mono (by decide)) (hMt.1.mono (by decide)) h
  have eH : ∀ i t, decide (pe (x1, x2) (y1, y2) i = M.2) = t → Sim Tryd.prog G0 true 31 [dyD (pe (x1, x2) (y1, y2) i), dyD M.2] (.bool t) := fun i t h => rEq_is ((hpt i).mono (by decide)) (hMt.2.mono (by decide)) h
  obtain ⟨rL, rH⟩ := reach_end (x1, x2) (y1, y2)
  rw [hM] at rL rH
  have w1 := rlPow_is K xr (xh.mono (by decide)) rfl
  have w2 := rlPow_is (r := ipow (x1, x1) K) K (.of (d1.mono (by decide))) (d1.mono (by decide)) (by rw [rof_pt])
  have w3 := rlPow_is (r := ipow (x2, x2) K) K (.of (d2.mono (by decide))) (d2.mono (by decide)) (by rw [rof_pt])
  have hw2 : Hc 12000 (ipow (x1, x1) K) := d1.ipow K K9 (by decide)
  have hw3 : Hc 12000 (ipow (x2, x2) K) := d2.ipow K K9 (by decide)
  have hw1 : Hc 12000 (ipow (rof (x1, x2)) K) := hx.ipow K K9 (by decide)
  have w4 := rlHull_is (r := ipow (rof (x1, x2)) K) (.of (hw2.mono (by decide))) (.of (hw3.mono (by decide))) (hw2.mono (by decide)) (hw3.mono (by decide)) (by
    rw [iabs_pt_pow, iabs_pt_pow, rof_pt, rof_pt, ← iabs_pt_pow, ← iabs_pt_pow]; exact hull_pow (x1, x2) K5)
  have w5 := rlSame_is (t := true) (.of (hw1.mono (by decide))) (.of (hw1.mono (by decide))) (hw1.mono (by decide)) (hw1.mono (by decide)) (decide_eq_true rfl)
  have u1 := rlHull_is xr yr (xh.mono (by decide)) (yh.mono (by decide)) rfl
  have hu : Hc 1320 (ihull (rof (x1, x2)) (rof (y1, y2))) := hx.ihull hy
  have ou := ihull_ord ox oy
  have u2 := rlIn_is (t := true) xr (.of (hu.mono (by decide))) (xh.mono (by decide)) (hu.mono (by decide)) (by rw [rof_self ou]; exact decide_eq_true (iin_hull_l _ _))
  have u3 := rlSub_is xr xr (xh.mono (by decide)) (xh.mono (by decide)) rfl
  have u4 := rlSub_is (r := isub (ihull (rof (x1, x2)) (rof (y1, y2))) (rof (x1, x2))) (.of (hu.mono (by decide))) xr (hu.mono (by decide)) (xh.mono (by decide)) (by rw [rof_self ou])
  have u5 := rlIn_o ((hx.isub hx (c := 1321) (by decide)).mono (by decide)) ((hu.isub hx (c := 1321) (by decide)).mono (by decide)) (isub_ord ox ox) (isub_ord ou ox) (iin_sub_l _ (iin_hull_l _ _))
  generalize ihull (rof (x1, x2)) (rof (y1, y2)) = U at *
  generalize isub (rof (x1, x2)) (rof (x1, x2)) = V1 at *
  generalize isub U (rof (x1, x2)) = V2 at *
  generalize ipow (rof (x1, x2)) K = W1 at *
  generalize ipow (x1, x1) K = W2 at *
  generalize ipow (x2, x2) K = W3 at *
  obtain ⟨M1, M2⟩ := M
  obtain ⟨_, _⟩ := U
  obtain ⟨_, _⟩ := V1
  obtain ⟨_, _⟩ := V2
  obtain ⟨_, _⟩ := W1
  obtain ⟨_, _⟩ := W2
  obtain ⟨_, _⟩ := W3
  refine sim_mk tab_ok Tryd.func6 rfl (by kernel_rfl) rfl ⟨Nat.le_of_ble_eq_true rfl, Nat.le_of_ble_eq_true rfl⟩ ?_
  repeat' ((conv => whnf); first
    | with_reducible refine CallX.data ?_
    | refine RegE.lateS (ps := [(12, 5), (12, 6), (12, 7), (12, 8), (12, 9)]) rfl (by kernel_rfl) ?_ rfl
    | refine CallE.mk _ _ (known7_sim) ?_
    | refine CallE.mk _ _ (sf) ?_
    | refine CallE.mk _ _ (sg) ?_
    | refine CallE.mk _ _ (m1) ?_
    | refine RegE.early (Cd.mk (show regOk _ _ _ _ = true by kernel_rfl) ?_)
    | refine Cd.mk rfl ?_
    | refine Br.t ?_
    | refine Br.f ?_
    | with_reducible refine Br.eqd ?_
    | with_reducible refine Br.eqb ?_
    | with_reducible refine Br.dec (fun _ => ?_) (fun _ => ?_)
    | with_reducible refine Br.ndec (fun _ => ?_) (fun _ => ?_)
    | refine Br.mk (fun _ => ?_) (fun _ => ?_)
    | refine NthE.mk _ rfl ?_
    | refine And.intro (fun _ => ?_) ?_
    | (refine TkE.fL ?_; (conv => whnf); fail_if_success (show forceL _ _))
    | refine TkE.mk _ rfl rfl ?_
    | refine Res.mk ?_
    | refine LateE.mk (by repeat first | exact True.intro | refine And.intro (by kernel_rfl) ?_) ?_
    | refine DsE.mk [] rfl ?_
    | refine LoopEnd.go _ _ ⟨.inl rfl, rfl, rfl, by first | rfl | (repeat first | exact all_nil _ | refine all_la _ _ _ _ _ ?_)⟩ ?_
    | ((with_reducible refine EqE.idW ?_); first | with_reducible refine EqE.mk _ (n_i64 _ (by omega)) ?_ | with_reducible refine EqE.mk _ (n_succ _ (by omega)) ?_ | refine EqE.mk _ (wrap_in (by omega) (by omega)) ?_ | refine EqE.mk _ rfl ?_)
    | ((with_reducible refine EqE.idM ?_); refine EqE.mk _ rfl ?_)
    | ((with_reducible refine EqE.idI ?_); first | refine EqE.mk _ (max_eq _ _) ?_ | refine EqE.mk _ (min_eq _ _) ?_)
    | ((with_reducible refine EqE.idS ?_); first | (refine EqE.fP ?_; (conv => whnf); fail_if_success (show forceL _ _)) | refine EqE.mk _ rfl ?_)
    | ((with_reducible refine EqE.idL ?_); first | refine EqE.mk _ (sl_own _ _ _ _ (by omega) (by omega) rfl) ?_ | refine EqE.mk _ rfl ?_)
    | refine EqE.mk _ rfl ?_
    | refine Cd.mk (Nat.le_of_ble_eq_true rfl) ?_
    | refine Cd.mk ⟨rfl, rfl⟩ ?_
    | refine Cd.mk (by first | omega | (simp only [length_limbs, length_la]; omega)) ?_
    | refine Cd.mk ?_ ?_)
  refine ⟨[], [2, 3, 4, 7, 8, 9, 10, 11, 12], [3, 4, 7, 10, 11], fun m xs h => ∃ (i : Nat) (u v : Bool), m = 4 - i ∧ i ≤ 4 ∧ reach (x1, x2) (y1, y2) M1 i = u ∧ reach (x1, x2) (y1, y2) M2 i = v ∧
      xs = [.d (.int .u8 n), .ptr 3 0, .ptr 4 0, .ptr 7 0, .d (.bool u), .d (.bool v), .ptr 10 0, .ptr 11 0, .d (.int .i64 (i : Nat))] ∧
      h = [(11, false, [.d (.bool b2), .d (sl l2), .d (.int .i64 e2), .d (.bool c2), .d (sl k2), .d (.int .i64 f2)]), (10, false, [.d (.bool b1), .d (sl l1), .d (.int .i64 e1), .d (.bool c1), .d (sl k1), .d (.int .i64 f1)]), (7, false, dyC M1 ++ dyC M2), (4, false, [.d (.bool b2), .d (sl l2), .d (.int .i64 e2), .d (.bool c2), .d (sl k2), .d (.int .i64 f2)]), (3, false, [.d (.bool b1), .d (sl l1), .d (.int .i64 e1), .d (.bool c1), .d (sl k1), .d (.int .i64 f1)])],
    ⟨_, _, _, ⟨.inl rfl, rfl, rfl, by first | rfl | (repeat first | exact all_nil _ | refine all_la _ _ _ _ _ ?_)⟩, 0, false, false, rfl, by decide, rfl, rfl, rfl, rfl⟩, ?_⟩
  rintro m xs h ⟨i, u, v, rfl, hi4, hu', hv', rfl, rfl⟩
  have i4 : i = 0 ∨ i = 1 ∨ i = 2 ∨ i = 3 ∨ i = 4 := by omega
  rcases i4 with rfl | rfl | rfl | rfl | rfl
  · have iNi := iN 0
    have eQi := eQ 0
    obtain ⟨t1, ht1⟩ : ∃ t, decide (pe (x1, x2) (y1, y2) 0 = M1) = t := ⟨_, rfl⟩
    obtain ⟨t2, ht2⟩ : ∃ t, decide (pe (x1, x2) (y1, y2) 0 = M2) = t := ⟨_, rfl⟩
    have eLi := eL 0 t1 ht1
    have eHi := eH 0 t2 ht2
    have rL1 : reach (x1, x2) (y1, y2) M1 (0 + 1) = (u || t1) := by rw [← hu', ← ht1]; rfl
    have rH1 : reach (x1, x2) (y1, y2) M2 (0 + 1) = (v || t2) := by rw [← hv', ← ht2]; rfl
    generalize pe (x1, x2) (y1, y2) 0 = P at *
    cases u <;> cases v
    · repeat' ((conv => whnf); first
        | with_reducible refine CallX.data ?_
        | refine CallE.mk _ _ (o1) ?_
        | refine CallE.mk _ _ (o3) ?_
        | refine CallE.mk _ _ (q0) ?_
        | refine CallE.mk _ _ (iNi) ?_
        | refine CallE.mk _ _ (eQi) ?_
        | refine CallE.mk _ _ (eLi) ?_
        | refine CallE.mk _ _ (eHi) ?_
        | refine Cd.mk ⟨by decide, by decide⟩ ?_
        | refine RegE.early (Cd.mk (show regOk _ _ _ _ = true by kernel_rfl) ?_)
        | refine Cd.mk rfl ?_
        | refine Br.t ?_
        | refine Br.f ?_
        | with_reducible refine Br.eqd ?_
        | with_reducible refine Br.eqb ?_
        | with_reducible refine Br.dec (fun _ => ?_) (fun _ => ?_)
        | with_reducible refine Br.ndec (fun _ => ?_) (fun _ => ?_)
        | refine Br.mk (fun _ => ?_) (fun _ => ?_)
        | refine NthE.mk _ rfl ?_
        | refine And.intro (fun _ => ?_) ?_
        | (refine TkE.fL ?_; (conv => whnf); fail_if_success (show forceL _ _))
        | refine TkE.mk _ rfl rfl ?_
        | refine Res.mk ?_
        | refine LateE.mk (by repeat first | exact True.intro | refine And.intro (by kernel_rfl) ?_) ?_
        | refine DsE.mk [] rfl ?_
        | refine LoopEnd.go _ _ ⟨.inl rfl, rfl, rfl, by first | rfl | (repeat first | exact all_nil _ | refine all_la _ _ _ _ _ ?_)⟩ ?_
        | ((with_reducible refine EqE.idW ?_); first | refine EqE.mk _ (n_iadd _ _ (by omega)) ?_ | with_reducible refine EqE.mk _ (n_i64 _ (by omega)) ?_ | with_reducible refine EqE.mk _ (n_succ _ (by omega)) ?_ | refine EqE.mk _ (wrap_in (by omega) (by omega)) ?_ | refine EqE.mk _ rfl ?_)
        | ((with_reducible refine EqE.idM ?_); refine EqE.mk _ rfl ?_)
        | ((with_reducible refine EqE.idI ?_); first | refine EqE.mk _ (max_eq _ _) ?_ | refine EqE.mk _ (min_eq _ _) ?_)
        | ((with_reducible refine EqE.idS ?_); first | (refine EqE.fP ?_; (conv => whnf); fail_if_success (show forceL _ _)) | refine EqE.mk _ rfl ?_)
        | ((with_reducible refine EqE.idL ?_); first | refine EqE.mk _ (sl_own _ _ _ _ (by omega) (by omega) rfl) ?_ | refine EqE.mk _ rfl ?_)
        | refine EqE.mk _ rfl ?_
        | refine Cd.mk (Nat.le_of_ble_eq_true rfl) ?_
        | refine Cd.mk ⟨rfl, rfl⟩ ?_
        | refine Cd.mk (by first | omega | (simp only [length_limbs, length_la]; omega)) ?_
        | refine Cd.mk ?_ ?_)
      exact ⟨_, ⟨1, _, _, rfl, by decide, rL1, rH1, rfl, rfl⟩, by decide⟩
    · repeat' ((conv => whnf); first
        | with_reducible refine CallX.data ?_
        | refine CallE.mk _ _ (o1) ?_
        | refine CallE.mk _ _ (o3) ?_
        | refine CallE.mk _ _ (q0) ?_
        | refine CallE.mk _ _ (iNi) ?_
        | refine CallE.mk _ _ (eQi) ?_
        | refine CallE.mk _ _ (eLi) ?_
        | refine CallE.mk _ _ (eHi) ?_
        | refine Cd.mk ⟨by decide, by decide⟩ ?_
        | refine RegE.early (Cd.mk (show regOk _ _ _ _ = true by kernel_rfl) ?_)
        | refine Cd.mk rfl ?_
        | refine Br.t ?_
        | refine Br.f ?_
        | with_reducible refine Br.eqd ?_
        | with_reducible refine Br.eqb ?_
        | with_reducible refine Br.dec (fun _ => ?_) (fun _ => ?_)
        | with_reducible refine Br.ndec (fun _ => ?_) (fun _ => ?_)
        | refine Br.mk (fun _ => ?_) (fun _ => ?_)
        | refine NthE.mk _ rfl ?_
        | refine And.intro (fun _ => ?_) ?_
        | (refine TkE.fL ?_; (conv => whnf); fail_if_success (show forceL _ _))
        | refine TkE.mk _ rfl rfl ?_
        | refine Res.mk ?_
        | refine LateE.mk (by repeat first | exact True.intro | refine And.intro (by kernel_rfl) ?_) ?_
        | refine DsE.mk [] rfl ?_
        | refine LoopEnd.go _ _ ⟨.inl rfl, rfl, rfl, by first | rfl | (repeat first | exact all_nil _ | refine all_la _ _ _ _ _ ?_)⟩ ?_
        | ((with_reducible refine EqE.idW ?_); first | refine EqE.mk _ (n_iadd _ _ (by omega)) ?_ | with_reducible refine EqE.mk _ (n_i64 _ (by omega)) ?_ | with_reducible refine EqE.mk _ (n_succ _ (by omega)) ?_ | refine EqE.mk _ (wrap_in (by omega) (by omega)) ?_ | refine EqE.mk _ rfl ?_)
        | ((with_reducible refine EqE.idM ?_); refine EqE.mk _ rfl ?_)
        | ((with_reducible refine EqE.idI ?_); first | refine EqE.mk _ (max_eq _ _) ?_ | refine EqE.mk _ (min_eq _ _) ?_)
        | ((with_reducible refine EqE.idS ?_); first | (refine EqE.fP ?_; (conv => whnf); fail_if_success (show forceL _ _)) | refine EqE.mk _ rfl ?_)
        | ((with_reducible refine EqE.idL ?_); first | refine EqE.mk _ (sl_own _ _ _ _ (by omega) (by omega) rfl) ?_ | refine EqE.mk _ rfl ?_)
        | refine EqE.mk _ rfl ?_
        | refine Cd.mk (Nat.le_of_ble_eq_true rfl) ?_
        | refine Cd.mk ⟨rfl, rfl⟩ ?_
        | refine Cd.mk (by first | omega | (simp only [length_limbs, length_la]; omega)) ?_
        | refine Cd.mk ?_ ?_)
      exact ⟨_, ⟨1, _, _, rfl, by decide, rL1, rH1, rfl, rfl⟩, by decide⟩
    · repeat' ((conv => whnf); first
        | with_reducible refine CallX.data ?_
        | refine CallE.mk _ _ (o1) ?_
        | refine CallE.mk _ _ (o3) ?_
        | refine CallE.mk _ _ (q0) ?_
        | refine CallE.mk _ _ (iNi) ?_
        | refine CallE.mk _ _ (eQi) ?_
        | refine CallE.mk _ _ (eLi) ?_
        | refine CallE.mk _ _ (eHi) ?_
        | refine Cd.mk ⟨by decide, by decide⟩ ?_
        | refine RegE.early (Cd.mk (show regOk _ _ _ _ = true by kernel_rfl) ?_)
        | refine Cd.mk rfl ?_
        | refine Br.t ?_
        | refine Br.f ?_
        | with_reducible refine Br.eqd ?_
        | with_reducible refine Br.eqb ?_
        | with_reducible refine Br.dec (fun _ => ?_) (fun _ => ?_)
        | with_reducible refine Br.ndec (fun _ => ?_) (fun _ => ?_)
        | refine Br.mk (fun _ => ?_) (fun _ => ?_)
        | refine NthE.mk _ rfl ?_
        | refine And.intro (fun _ => ?_) ?_
        | (refine TkE.fL ?_; (conv => whnf); fail_if_success (show forceL _ _))
        | refine TkE.mk _ rfl rfl ?_
        | refine Res.mk ?_
        | refine LateE.mk (by repeat first | exact True.intro | refine And.intro (by kernel_rfl) ?_) ?_
        | refine DsE.mk [] rfl ?_
        | refine LoopEnd.go _ _ ⟨.inl rfl, rfl, rfl, by first | rfl | (repeat first | exact all_nil _ | refine all_la _ _ _ _ _ ?_)⟩ ?_
        | ((with_reducible refine EqE.idW ?_); first | refine EqE.mk _ (n_iadd _ _ (by omega)) ?_ | with_reducible refine EqE.mk _ (n_i64 _ (by omega)) ?_ | with_reducible refine EqE.mk _ (n_succ _ (by omega)) ?_ | refine EqE.mk _ (wrap_in (by omega) (by omega)) ?_ | refine EqE.mk _ rfl ?_)
        | ((with_reducible refine EqE.idM ?_); refine EqE.mk _ rfl ?_)
        | ((with_reducible refine EqE.idI ?_); first | refine EqE.mk _ (max_eq _ _) ?_ | refine EqE.mk _ (min_eq _ _) ?_)
        | ((with_reducible refine EqE.idS ?_); first | (refine EqE.fP ?_; (conv => whnf); fail_if_success (show forceL _ _)) | refine EqE.mk _ rfl ?_)
        | ((with_reducible refine EqE.idL ?_); first | refine EqE.mk _ (sl_own _ _ _ _ (by omega) (by omega) rfl) ?_ | refine EqE.mk _ rfl ?_)
        | refine EqE.mk _ rfl ?_
        | refine Cd.mk (Nat.le_of_ble_eq_true rfl) ?_
        | refine Cd.mk ⟨rfl, rfl⟩ ?_
        | refine Cd.mk (by first | omega | (simp only [length_limbs, length_la]; omega)) ?_
        | refine Cd.mk ?_ ?_)
      exact ⟨_, ⟨1, _, _, rfl, by decide, rL1, rH1, rfl, rfl⟩, by decide⟩
    · repeat' ((conv => whnf); first
        | with_reducible refine CallX.data ?_
        | refine CallE.mk _ _ (o1) ?_
        | refine CallE.mk _ _ (o3) ?_
        | refine CallE.mk _ _ (q0) ?_
        | refine CallE.mk _ _ (iNi) ?_
        | refine CallE.mk _ _ (eQi) ?_
        | refine CallE.mk _ _ (eLi) ?_
        | refine CallE.mk _ _ (eHi) ?_
        | refine Cd.mk ⟨by decide, by decide⟩ ?_
        | refine RegE.early (Cd.mk (show regOk _ _ _ _ = true by kernel_rfl) ?_)
        | refine Cd.mk rfl ?_
        | refine Br.t ?_
        | refine Br.f ?_
        | with_reducible refine Br.eqd ?_
        | with_reducible refine Br.eqb ?_
        | with_reducible refine Br.dec (fun _ => ?_) (fun _ => ?_)
        | with_reducible refine Br.ndec (fun _ => ?_) (fun _ => ?_)
        | refine Br.mk (fun _ => ?_) (fun _ => ?_)
        | refine NthE.mk _ rfl ?_
        | refine And.intro (fun _ => ?_) ?_
        | (refine TkE.fL ?_; (conv => whnf); fail_if_success (show forceL _ _))
        | refine TkE.mk _ rfl rfl ?_
        | refine Res.mk ?_
        | refine LateE.mk (by repeat first | exact True.intro | refine And.intro (by kernel_rfl) ?_) ?_
        | refine DsE.mk [] rfl ?_
        | refine LoopEnd.go _ _ ⟨.inl rfl, rfl, rfl, by first | rfl | (repeat first | exact all_nil _ | refine all_la _ _ _ _ _ ?_)⟩ ?_
        | ((with_reducible refine EqE.idW ?_); first | refine EqE.mk _ (n_iadd _ _ (by omega)) ?_ | with_reducible refine EqE.mk _ (n_i64 _ (by omega)) ?_ | with_reducible refine EqE.mk _ (n_succ _ (by omega)) ?_ | refine EqE.mk _ (wrap_in (by omega) (by omega)) ?_ | refine EqE.mk _ rfl ?_)
        | ((with_reducible refine EqE.idM ?_); refine EqE.mk _ rfl ?_)
        | ((with_reducible refine EqE.idI ?_); first | refine EqE.mk _ (max_eq _ _) ?_ | refine EqE.mk _ (min_eq _ _) ?_)
        | ((with_reducible refine EqE.idS ?_); first | (refine EqE.fP ?_; (conv => whnf); fail_if_success (show forceL _ _)) | refine EqE.mk _ rfl ?_)
        | ((with_reducible refine EqE.idL ?_); first | refine EqE.mk _ (sl_own _ _ _ _ (by omega) (by omega) rfl) ?_ | refine EqE.mk _ rfl ?_)
        | refine EqE.mk _ rfl ?_
        | refine Cd.mk (Nat.le_of_ble_eq_true rfl) ?_
        | refine Cd.mk ⟨rfl, rfl⟩ ?_
        | refine Cd.mk (by first | omega | (simp only [length_limbs, length_la]; omega)) ?_
        | refine Cd.mk ?_ ?_)
      exact ⟨_, ⟨1, _, _, rfl, by decide, rL1, rH1, rfl, rfl⟩, by decide⟩
  · have iNi := iN 1
    have eQi := eQ 1
    obtain ⟨t1, ht1⟩ : ∃ t, decide (pe (x1, x2) (y1, y2) 1 = M1) = t := ⟨_, rfl⟩
    obtain ⟨t2, ht2⟩ : ∃ t, decide (pe (x1, x2) (y1, y2) 1 = M2) = t := ⟨_, rfl⟩
    have eLi := eL 1 t1 ht1
    have eHi := eH 1 t2 ht2
    have rL1 : reach (x1, x2) (y1, y2) M1 (1 + 1) = (u || t1) := by rw [← hu', ← ht1]; rfl
    have rH1 : reach (x1, x2) (y1, y2) M2 (1 + 1) = (v || t2) := by rw [← hv', ← ht2]; rfl
    generalize pe (x1, x2) (y1, y2) 1 = P at *
    cases u <;> cases v
    · repeat' ((conv => whnf); first
        | with_reducible refine CallX.data ?_
        | refine CallE.mk _ _ (o1) ?_
        | refine CallE.mk _ _ (o4) ?_
        | refine CallE.mk _ _ (q1) ?_
        | refine CallE.mk _ _ (iNi) ?_
        | refine CallE.mk _ _ (eQi) ?_
        | refine CallE.mk _ _ (eLi) ?_
        | refine CallE.mk _ _ (eHi) ?_
        | refine Cd.mk ⟨by decide, by decide⟩ ?_
        | refine RegE.early (Cd.mk (show regOk _ _ _ _ = true by kernel_rfl) ?_)
        | refine Cd.mk rfl ?_
        | refine Br.t ?_
        | refine Br.f ?_
        | with_reducible refine Br.eqd ?_
        | with_reducible refine Br.eqb ?_
        | with_reducible refine Br.dec (fun _ => ?_) (fun _ => ?_)
        | with_reducible refine Br.ndec (fun _ => ?_) (fun _ => ?_)
        | refine Br.mk (fun _ => ?_) (fun _ => ?_)
        | refine NthE.mk _ rfl ?_
        | refine And.intro (fun _ => ?_) ?_
        | (refine TkE.fL ?_; (conv => whnf); fail_if_success (show forceL _ _))
        | refine TkE.mk _ rfl rfl ?_
        | refine Res.mk ?_
        | refine LateE.mk (by repeat first | exact True.intro | refine And.intro (by kernel_rfl) ?_) ?_
        | refine DsE.mk [] rfl ?_
        | refine LoopEnd.go _ _ ⟨.inl rfl, rfl, rfl, by first | rfl | (repeat first | exact all_nil _ | refine all_la _ _ _ _ _ ?_)⟩ ?_
        | ((with_reducible refine EqE.idW ?_); first | refine EqE.mk _ (n_iadd _ _ (by omega)) ?_ | with_reducible refine EqE.mk _ (n_i64 _ (by omega)) ?_ | with_reducible refine EqE.mk _ (n_succ _ (by omega)) ?_ | refine EqE.mk _ (wrap_in (by omega) (by omega)) ?_ | refine EqE.mk _ rfl ?_)
        | ((with_reducible refine EqE.idM ?_); refine EqE.mk _ rfl ?_)
        | ((with_reducible refine EqE.idI ?_); first | refine EqE.mk _ (max_eq _ _) ?_ | refine EqE.mk _ (min_eq _ _) ?_)
        | ((with_reducible refine EqE.idS ?_); first | (refine EqE.fP ?_; (conv => whnf); fail_if_success (show forceL _ _)) | refine EqE.mk _ rfl ?_)
        | ((with_reducible refine EqE.idL ?_); first | refine EqE.mk _ (sl_own _ _ _ _ (by omega) (by omega) rfl) ?_ | refine EqE.mk _ rfl ?_)
        | refine EqE.mk _ rfl ?_
        | refine Cd.mk (Nat.le_of_ble_eq_true rfl) ?_
        | refine Cd.mk ⟨rfl, rfl⟩ ?_
        | refine Cd.mk (by first | omega | (simp only [length_limbs, length_la]; omega)) ?_
        | refine Cd.mk ?_ ?_)
      exact ⟨_, ⟨2, _, _, rfl, by decide, rL1, rH1, rfl, rfl⟩, by decide⟩
    · repeat' ((conv => whnf); first
        | with_reducible refine CallX.data ?_
        | refine CallE.mk _ _ (o1) ?_
        | refine CallE.mk _ _ (o4) ?_
        | refine CallE.mk _ _ (q1) ?_
        | refine CallE.mk _ _ (iNi) ?_
        | refine CallE.mk _ _ (eQi) ?_
        | refine CallE.mk _ _ (eLi) ?_
        | refine CallE.mk _ _ (eHi) ?_
        | refine Cd.mk ⟨by decide, by decide⟩ ?_
        | refine RegE.early (Cd.mk (show regOk _ _ _ _ = true by kernel_rfl) ?_)
        | refine Cd.mk rfl ?_
        | refine Br.t ?_
        | refine Br.f ?_
        | with_reducible refine Br.eqd ?_
        | with_reducible refine Br.eqb ?_
        | with_reducible refine Br.dec (fun _ => ?_) (fun _ => ?_)
        | with_reducible refine Br.ndec (fun _ => ?_) (fun _ => ?_)
        | refine Br.mk (fun _ => ?_) (fun _ => ?_)
        | refine NthE.mk _ rfl ?_
        | refine And.intro (fun _ => ?_) ?_
        | (refine TkE.fL ?_; (conv => whnf); fail_if_success (show forceL _ _))
        | refine TkE.mk _ rfl rfl ?_
        | refine Res.mk ?_
        | refine LateE.mk (by repeat first | exact True.intro | refine And.intro (by kernel_rfl) ?_) ?_
        | refine DsE.mk [] rfl ?_
        | refine LoopEnd.go _ _ ⟨.inl rfl, rfl, rfl, by first | rfl | (repeat first | exact all_nil _ | refine all_la _ _ _ _ _ ?_)⟩ ?_
        | ((with_reducible refine EqE.idW ?_); first | refine EqE.mk _ (n_iadd _ _ (by omega)) ?_ | with_reducible refine EqE.mk _ (n_i64 _ (by omega)) ?_ | with_reducible refine EqE.mk _ (n_succ _ (by omega)) ?_ | refine EqE.mk _ (wrap_in (by omega) (by omega)) ?_ | refine EqE.mk _ rfl ?_)
        | ((with_reducible refine EqE.idM ?_); refine EqE.mk _ rfl ?_)
        | ((with_reducible refine EqE.idI ?_); first | refine EqE.mk _ (max_eq _ _) ?_ | refine EqE.mk _ (min_eq _ _) ?_)
        | ((with_reducible refine EqE.idS ?_); first | (refine EqE.fP ?_; (conv => whnf); fail_if_success (show forceL _ _)) | refine EqE.mk _ rfl ?_)
        | ((with_reducible refine EqE.idL ?_); first | refine EqE.mk _ (sl_own _ _ _ _ (by omega) (by omega) rfl) ?_ | refine EqE.mk _ rfl ?_)
        | refine EqE.mk _ rfl ?_
        | refine Cd.mk (Nat.le_of_ble_eq_true rfl) ?_
        | refine Cd.mk ⟨rfl, rfl⟩ ?_
        | refine Cd.mk (by first | omega | (simp only [length_limbs, length_la]; omega)) ?_
        | refine Cd.mk ?_ ?_)
      exact ⟨_, ⟨2, _, _, rfl, by decide, rL1, rH1, rfl, rfl⟩, by decide⟩
    · repeat' ((conv => whnf); first
        | with_reducible refine CallX.data ?_
        | refine CallE.mk _ _ (o1) ?_
        | refine CallE.mk _ _ (o4) ?_
        | refine CallE.mk _ _ (q1) ?_
        | refine CallE.mk _ _ (iNi) ?_
        | refine CallE.mk _ _ (eQi) ?_
        | refine CallE.mk _ _ (eLi) ?_
        | refine CallE.mk _ _ (eHi) ?_
        | refine Cd.mk ⟨by decide, by decide⟩ ?_
        | refine RegE.early (Cd.mk (show regOk _ _ _ _ = true by kernel_rfl) ?_)
        | refine Cd.mk rfl ?_
        | refine Br.t ?_
        | refine Br.f ?_
        | with_reducible refine Br.eqd ?_
        | with_reducible refine Br.eqb ?_
        | with_reducible refine Br.dec (fun _ => ?_) (fun _ => ?_)
        | with_reducible refine Br.ndec (fun _ => ?_) (fun _ => ?_)
        | refine Br.mk (fun _ => ?_) (fun _ => ?_)
        | refine NthE.mk _ rfl ?_
        | refine And.intro (fun _ => ?_) ?_
        | (refine TkE.fL ?_; (conv => whnf); fail_if_success (show forceL _ _))
        | refine TkE.mk _ rfl rfl ?_
        | refine Res.mk ?_
        | refine LateE.mk (by repeat first | exact True.intro | refine And.intro (by kernel_rfl) ?_) ?_
        | refine DsE.mk [] rfl ?_
        | refine LoopEnd.go _ _ ⟨.inl rfl, rfl, rfl, by first | rfl | (repeat first | exact all_nil _ | refine all_la _ _ _ _ _ ?_)⟩ ?_
        | ((with_reducible refine EqE.idW ?_); first | refine EqE.mk _ (n_iadd _ _ (by omega)) ?_ | with_reducible refine EqE.mk _ (n_i64 _ (by omega)) ?_ | with_reducible refine EqE.mk _ (n_succ _ (by omega)) ?_ | refine EqE.mk _ (wrap_in (by omega) (by omega)) ?_ | refine EqE.mk _ rfl ?_)
        | ((with_reducible refine EqE.idM ?_); refine EqE.mk _ rfl ?_)
        | ((with_reducible refine EqE.idI ?_); first | refine EqE.mk _ (max_eq _ _) ?_ | refine EqE.mk _ (min_eq _ _) ?_)
        | ((with_reducible refine EqE.idS ?_); first | (refine EqE.fP ?_; (conv => whnf); fail_if_success (show forceL _ _)) | refine EqE.mk _ rfl ?_)
        | ((with_reducible refine EqE.idL ?_); first | refine EqE.mk _ (sl_own _ _ _ _ (by omega) (by omega) rfl) ?_ | refine EqE.mk _ rfl ?_)
        | refine EqE.mk _ rfl ?_
        | refine Cd.mk (Nat.le_of_ble_eq_true rfl) ?_
        | refine Cd.mk ⟨rfl, rfl⟩ ?_
        | refine Cd.mk (by first | omega | (simp only [length_limbs, length_la]; omega)) ?_
        | refine Cd.mk ?_ ?_)
      exact ⟨_, ⟨2, _, _, rfl, by decide, rL1, rH1, rfl, rfl⟩, by decide⟩
    · repeat' ((conv => whnf); first
        | with_reducible refine CallX.data ?_
        | refine CallE.mk _ _ (o1) ?_
        | refine CallE.mk _ _ (o4) ?_
        | refine CallE.mk _ _ (q1) ?_
        | refine CallE.mk _ _ (iNi) ?_
        | refine CallE.mk _ _ (eQi) ?_
        | refine CallE.mk _ _ (eLi) ?_
        | refine CallE.mk _ _ (eHi) ?_
        | refine Cd.mk ⟨by decide, by decide⟩ ?_
        | refine RegE.early (Cd.mk (show regOk _ _ _ _ = true by kernel_rfl) ?_)
        | refine Cd.mk rfl ?_
        | refine Br.t ?_
        | refine Br.f ?_
        | with_reducible refine Br.eqd ?_
        | with_reducible refine Br.eqb ?_
        | with_reducible refine Br.dec (fun _ => ?_) (fun _ => ?_)
        | with_reducible refine Br.ndec (fun _ => ?_) (fun _ => ?_)
        | refine Br.mk (fun _ => ?_) (fun _ => ?_)
        | refine NthE.mk _ rfl ?_
        | refine And.intro (fun _ => ?_) ?_
        | (refine TkE.fL ?_; (conv => whnf); fail_if_success (show forceL _ _))
        | refine TkE.mk _ rfl rfl ?_
        | refine Res.mk ?_
        | refine LateE.mk (by repeat first | exact True.intro | refine And.intro (by kernel_rfl) ?_) ?_
        | refine DsE.mk [] rfl ?_
        | refine LoopEnd.go _ _ ⟨.inl rfl, rfl, rfl, by first | rfl | (repeat first | exact all_nil _ | refine all_la _ _ _ _ _ ?_)⟩ ?_
        | ((with_reducible refine EqE.idW ?_); first | refine EqE.mk _ (n_iadd _ _ (by omega)) ?_ | with_reducible refine EqE.mk _ (n_i64 _ (by omega)) ?_ | with_reducible refine EqE.mk _ (n_succ _ (by omega)) ?_ | refine EqE.mk _ (wrap_in (by omega) (by omega)) ?_ | refine EqE.mk _ rfl ?_)
        | ((with_reducible refine EqE.idM ?_); refine EqE.mk _ rfl ?_)
        | ((with_reducible refine EqE.idI ?_); first | refine EqE.mk _ (max_eq _ _) ?_ | refine EqE.mk _ (min_eq _ _) ?_)
        | ((with_reducible refine EqE.idS ?_); first | (refine EqE.fP ?_; (conv => whnf); fail_if_success (show forceL _ _)) | refine EqE.mk _ rfl ?_)
        | ((with_reducible refine EqE.idL ?_); first | refine EqE.mk _ (sl_own _ _ _ _ (by omega) (by omega) rfl) ?_ | refine EqE.mk _ rfl ?_)
        | refine EqE.mk _ rfl ?_
        | refine Cd.mk (Nat.le_of_ble_eq_true rfl) ?_
        | refine Cd.mk ⟨rfl, rfl⟩ ?_
        | refine Cd.mk (by first | omega | (simp only [length_limbs, length_la]; omega)) ?_
        | refine Cd.mk ?_ ?_)
      exact ⟨_, ⟨2, _, _, rfl, by decide, rL1, rH1, rfl, rfl⟩, by decide⟩
  · have iNi := iN 2
    have eQi := eQ 2
    obtain ⟨t1, ht1⟩ : ∃ t, decide (pe (x1, x2) (y1, y2) 2 = M1) = t := ⟨_, rfl⟩
    obtain ⟨t2, ht2⟩ : ∃ t, decide (pe (x1, x2) (y1, y2) 2 = M2) = t := ⟨_, rfl⟩
    have eLi := eL 2 t1 ht1
    have eHi := eH 2 t2 ht2
    have rL1 : reach (x1, x2) (y1, y2) M1 (2 + 1) = (u || t1) := by rw [← hu', ← ht1]; rfl
    have rH1 : reach (x1, x2) (y1, y2) M2 (2 + 1) = (v || t2) := by rw [← hv', ← ht2]; rfl
    generalize pe (x1, x2) (y1, y2) 2 = P at *
    cases u <;> cases v
    · repeat' ((conv => whnf); first
        | with_reducible refine CallX.data ?_
        | refine CallE.mk _ _ (o2) ?_
        | refine CallE.mk _ _ (o3) ?_
        | refine CallE.mk _ _ (q2) ?_
        | refine CallE.mk _ _ (iNi) ?_
        | refine CallE.mk _ _ (eQi) ?_
        | refine CallE.mk _ _ (eLi) ?_
        | refine CallE.mk _ _ (eHi) ?_
        | refine Cd.mk ⟨by decide, by decide⟩ ?_
        | refine RegE.early (Cd.mk (show regOk _ _ _ _ = true by kernel_rfl) ?_)
        | refine Cd.mk rfl ?_
        | refine Br.t ?_
        | refine Br.f ?_
        | with_reducible refine Br.eqd ?_
        | with_reducible refine Br.eqb ?_
        | with_reducible refine Br.dec (fun _ => ?_) (fun _ => ?_)
        | with_reducible refine Br.ndec (fun _ => ?_) (fun _ => ?_)
        | refine Br.mk (fun _ => ?_) (fun _ => ?_)
        | refine NthE.mk _ rfl ?_
        | refine And.intro (fun _ => ?_) ?_
        | (refine TkE.fL ?_; (conv => whnf); fail_if_success (show forceL _ _))
        | refine TkE.mk _ rfl rfl ?_
        | refine Res.mk ?_
        | refine LateE.mk (by repeat first | exact True.intro | refine And.intro (by kernel_rfl) ?_) ?_
        | refine DsE.mk [] rfl ?_
        | refine LoopEnd.go _ _ ⟨.inl rfl, rfl, rfl, by first | rfl | (repeat first | exact all_nil _ | refine all_la _ _ _ _ _ ?_)⟩ ?_
        | ((with_reducible refine EqE.idW ?_); first | refine EqE.mk _ (n_iadd _ _ (by omega)) ?_ | with_reducible refine EqE.mk _ (n_i64 _ (by omega)) ?_ | with_reducible refine EqE.mk _ (n_succ _ (by omega)) ?_ | refine EqE.mk _ (wrap_in (by omega) (by omega)) ?_ | refine EqE.mk _ rfl ?_)
        | ((with_reducible refine EqE.idM ?_); refine EqE.mk _ rfl ?_)
        | ((with_reducible refine EqE.idI ?_); first | refine EqE.mk _ (max_eq _ _) ?_ | refine EqE.mk _ (min_eq _ _) ?_)
        | ((with_reducible refine EqE.idS ?_); first | (refine EqE.fP ?_; (conv => whnf); fail_if_success (show forceL _ _)) | refine EqE.mk _ rfl ?_)
        | ((with_reducible refine EqE.idL ?_); first | refine EqE.mk _ (sl_own _ _ _ _ (by omega) (by omega) rfl) ?_ | refine EqE.mk _ rfl ?_)
        | refine EqE.mk _ rfl ?_
        | refine Cd.mk (Nat.le_of_ble_eq_true rfl) ?_
        | refine Cd.mk ⟨rfl, rfl⟩ ?_
        | refine Cd.mk (by first | omega | (simp only [length_limbs, length_la]; omega)) ?_
        | refine Cd.mk ?_ ?_)
      exact ⟨_, ⟨3, _, _, rfl, by decide, rL1, rH1, rfl, rfl⟩, by decide⟩
    · repeat' ((conv => whnf); first
        | with_reducible refine CallX.data ?_
        | refine CallE.mk _ _ (o2) ?_
        | refine CallE.mk _ _ (o3) ?_
        | refine CallE.mk _ _ (q2) ?_
        | refine CallE.mk _ _ (iNi) ?_
        | refine CallE.mk _ _ (eQi) ?_
        | refine CallE.mk _ _ (eLi) ?_
        | refine CallE.mk _ _ (eHi) ?_
        | refine Cd.mk ⟨by decide, by decide⟩ ?_
        | refine RegE.early (Cd.mk (show regOk _ _ _ _ = true by kernel_rfl) ?_)
        | refine Cd.mk rfl ?_
        | refine Br.t ?_
        | refine Br.f ?_
        | with_reducible refine Br.eqd ?_
        | with_reducible refine Br.eqb ?_
        | with_reducible refine Br.dec (fun _ => ?_) (fun _ => ?_)
        | with_reducible refine Br.ndec (fun _ => ?_) (fun _ => ?_)
        | refine Br.mk (fun _ => ?_) (fun _ => ?_)
        | refine NthE.mk _ rfl ?_
        | refine And.intro (fun _ => ?_) ?_
        | (refine TkE.fL ?_; (conv => whnf); fail_if_success (show forceL _ _))
        | refine TkE.mk _ rfl rfl ?_
        | refine Res.mk ?_
        | refine LateE.mk (by repeat first | exact True.intro | refine And.intro (by kernel_rfl) ?_) ?_
        | refine DsE.mk [] rfl ?_
        | refine LoopEnd.go _ _ ⟨.inl rfl, rfl, rfl, by first | rfl | (repeat first | exact all_nil _ | refine all_la _ _ _ _ _ ?_)⟩ ?_
        | ((with_reducible refine EqE.idW ?_); first | refine EqE.mk _ (n_iadd _ _ (by omega)) ?_ | with_reducible refine EqE.mk _ (n_i64 _ (by omega)) ?_ | with_reducible refine EqE.mk _ (n_succ _ (by omega)) ?_ | refine EqE.mk _ (wrap_in (by omega) (by omega)) ?_ | refine EqE.mk _ rfl ?_)
        | ((with_reducible refine EqE.idM ?_); refine EqE.mk _ rfl ?_)
        | ((with_reducible refine EqE.idI ?_); first | refine EqE.mk _ (max_eq _ _) ?_ | refine EqE.mk _ (min_eq _ _) ?_)
        | ((with_reducible refine EqE.idS ?_); first | (refine EqE.fP ?_; (conv => whnf); fail_if_success (show forceL _ _)) | refine EqE.mk _ rfl ?_)
        | ((with_reducible refine EqE.idL ?_); first | refine EqE.mk _ (sl_own _ _ _ _ (by omega) (by omega) rfl) ?_ | refine EqE.mk _ rfl ?_)
        | refine EqE.mk _ rfl ?_
        | refine Cd.mk (Nat.le_of_ble_eq_true rfl) ?_
        | refine Cd.mk ⟨rfl, rfl⟩ ?_
        | refine Cd.mk (by first | omega | (simp only [length_limbs, length_la]; omega)) ?_
        | refine Cd.mk ?_ ?_)
      exact ⟨_, ⟨3, _, _, rfl, by decide, rL1, rH1, rfl, rfl⟩, by decide⟩
    · repeat' ((conv => whnf); first
        | with_reducible refine CallX.data ?_
        | refine CallE.mk _ _ (o2) ?_
        | refine CallE.mk _ _ (o3) ?_
        | refine CallE.mk _ _ (q2) ?_
        | refine CallE.mk _ _ (iNi) ?_
        | refine CallE.mk _ _ (eQi) ?_
        | refine CallE.mk _ _ (eLi) ?_
        | refine CallE.mk _ _ (eHi) ?_
        | refine Cd.mk ⟨by decide, by decide⟩ ?_
        | refine RegE.early (Cd.mk (show regOk _ _ _ _ = true by kernel_rfl) ?_)
        | refine Cd.mk rfl ?_
        | refine Br.t ?_
        | refine Br.f ?_
        | with_reducible refine Br.eqd ?_
        | with_reducible refine Br.eqb ?_
        | with_reducible refine Br.dec (fun _ => ?_) (fun _ => ?_)
        | with_reducible refine Br.ndec (fun _ => ?_) (fun _ => ?_)
        | refine Br.mk (fun _ => ?_) (fun _ => ?_)
        | refine NthE.mk _ rfl ?_
        | refine And.intro (fun _ => ?_) ?_
        | (refine TkE.fL ?_; (conv => whnf); fail_if_success (show forceL _ _))
        | refine TkE.mk _ rfl rfl ?_
        | refine Res.mk ?_
        | refine LateE.mk (by repeat first | exact True.intro | refine And.intro (by kernel_rfl) ?_) ?_
        | refine DsE.mk [] rfl ?_
        | refine LoopEnd.go _ _ ⟨.inl rfl, rfl, rfl, by first | rfl | (repeat first | exact all_nil _ | refine all_la _ _ _ _ _ ?_)⟩ ?_
        | ((with_reducible refine EqE.idW ?_); first | refine EqE.mk _ (n_iadd _ _ (by omega)) ?_ | with_reducible refine EqE.mk _ (n_i64 _ (by omega)) ?_ | with_reducible refine EqE.mk _ (n_succ _ (by omega)) ?_ | refine EqE.mk _ (wrap_in (by omega) (by omega)) ?_ | refine EqE.mk _ rfl ?_)
        | ((with_reducible refine EqE.idM ?_); refine EqE.mk _ rfl ?_)
        | ((with_reducible refine EqE.idI ?_); first | refine EqE.mk _ (max_eq _ _) ?_ | refine EqE.mk _ (min_eq _ _) ?_)
        | ((with_reducible refine EqE.idS ?_); first | (refine EqE.fP ?_; (conv => whnf); fail_if_success (show forceL _ _)) | refine EqE.mk _ rfl ?_)
        | ((with_reducible refine EqE.idL ?_); first | refine EqE.mk _ (sl_own _ _ _ _ (by omega) (by omega) rfl) ?_ | refine EqE.mk _ rfl ?_)
        | refine EqE.mk _ rfl ?_
        | refine Cd.mk (Nat.le_of_ble_eq_true rfl) ?_
        | refine Cd.mk ⟨rfl, rfl⟩ ?_
        | refine Cd.mk (by first | omega | (simp only [length_limbs, length_la]; omega)) ?_
        | refine Cd.mk ?_ ?_)
      exact ⟨_, ⟨3, _, _, rfl, by decide, rL1, rH1, rfl, rfl⟩, by decide⟩
    · repeat' ((conv => whnf); first
        | with_reducible refine CallX.data ?_
        | refine CallE.mk _ _ (o2) ?_
        | refine CallE.mk _ _ (o3) ?_
        | refine CallE.mk _ _ (q2) ?_
        | refine CallE.mk _ _ (iNi) ?_
        | refine CallE.mk _ _ (eQi) ?_
        | refine CallE.mk _ _ (eLi) ?_
        | refine CallE.mk _ _ (eHi) ?_
        | refine Cd.mk ⟨by decide, by decide⟩ ?_
        | refine RegE.early (Cd.mk (show regOk _ _ _ _ = true by kernel_rfl) ?_)
        | refine Cd.mk rfl ?_
        | refine Br.t ?_
        | refine Br.f ?_
        | with_reducible refine Br.eqd ?_
        | with_reducible refine Br.eqb ?_
        | with_reducible refine Br.dec (fun _ => ?_) (fun _ => ?_)
        | with_reducible refine Br.ndec (fun _ => ?_) (fun _ => ?_)
        | refine Br.mk (fun _ => ?_) (fun _ => ?_)
        | refine NthE.mk _ rfl ?_
        | refine And.intro (fun _ => ?_) ?_
        | (refine TkE.fL ?_; (conv => whnf); fail_if_success (show forceL _ _))
        | refine TkE.mk _ rfl rfl ?_
        | refine Res.mk ?_
        | refine LateE.mk (by repeat first | exact True.intro | refine And.intro (by kernel_rfl) ?_) ?_
        | refine DsE.mk [] rfl ?_
        | refine LoopEnd.go _ _ ⟨.inl rfl, rfl, rfl, by first | rfl | (repeat first | exact all_nil _ | refine all_la _ _ _ _ _ ?_)⟩ ?_
        | ((with_reducible refine EqE.idW ?_); first | refine EqE.mk _ (n_iadd _ _ (by omega)) ?_ | with_reducible refine EqE.mk _ (n_i64 _ (by omega)) ?_ | with_reducible refine EqE.mk _ (n_succ _ (by omega)) ?_ | refine EqE.mk _ (wrap_in (by omega) (by omega)) ?_ | refine EqE.mk _ rfl ?_)
        | ((with_reducible refine EqE.idM ?_); refine EqE.mk _ rfl ?_)
        | ((with_reducible refine EqE.idI ?_); first | refine EqE.mk _ (max_eq _ _) ?_ | refine EqE.mk _ (min_eq _ _) ?_)
        | ((with_reducible refine EqE.idS ?_); first | (refine EqE.fP ?_; (conv => whnf); fail_if_success (show forceL _ _)) | refine EqE.mk _ rfl ?_)
        | ((with_reducible refine EqE.idL ?_); first | refine EqE.mk _ (sl_own _ _ _ _ (by omega) (by omega) rfl) ?_ | refine EqE.mk _ rfl ?_)
        | refine EqE.mk _ rfl ?_
        | refine Cd.mk (Nat.le_of_ble_eq_true rfl) ?_
        | refine Cd.mk ⟨rfl, rfl⟩ ?_
        | refine Cd.mk (by first | omega | (simp only [length_limbs, length_la]; omega)) ?_
        | refine Cd.mk ?_ ?_)
      exact ⟨_, ⟨3, _, _, rfl, by decide, rL1, rH1, rfl, rfl⟩, by decide⟩
  · have iNi := iN 3
    have eQi := eQ 3
    obtain ⟨t1, ht1⟩ : ∃ t, decide (pe (x1, x2) (y1, y2) 3 = M1) = t := ⟨_, rfl⟩
    obtain ⟨t2, ht2⟩ : ∃ t, decide (pe (x1, x2) (y1, y2) 3 = M2) = t := ⟨_, rfl⟩
    have eLi := eL 3 t1 ht1
    have eHi := eH 3 t2 ht2
    have rL1 : reach (x1, x2) (y1, y2) M1 (3 + 1) = (u || t1) := by rw [← hu', ← ht1]; rfl
    have rH1 : reach (x1, x2) (y1, y2) M2 (3 + 1) = (v || t2) := by rw [← hv', ← ht2]; rfl
    generalize pe (x1, x2) (y1, y2) 3 = P at *
    cases u <;> cases v
    · repeat' ((conv => whnf); first
        | with_reducible refine CallX.data ?_
        | refine CallE.mk _ _ (o2) ?_
        | refine CallE.mk _ _ (o4) ?_
        | refine CallE.mk _ _ (q3) ?_
        | refine CallE.mk _ _ (iNi) ?_
        | refine CallE.mk _ _ (eQi) ?_
        | refine CallE.mk _ _ (eLi) ?_
        | refine CallE.mk _ _ (eHi) ?_
        | refine Cd.mk ⟨by decide, by decide⟩ ?_
        | refine RegE.early (Cd.mk (show regOk _ _ _ _ = true by kernel_rfl) ?_)
        | refine Cd.mk rfl ?_
        | refine Br.t ?_
        | refine Br.f ?_
        | with_reducible refine Br.eqd ?_
        | with_reducible refine Br.eqb ?_
        | with_reducible refine Br.dec (fun _ => ?_) (fun _ => ?_)
        | with_reducible refine Br.ndec (fun _ => ?_) (fun _ => ?_)
        | refine Br.mk (fun _ => ?_) (fun _ => ?_)
        | refine NthE.mk _ rfl ?_
        | refine And.intro (fun _ => ?_) ?_
        | (refine TkE.fL ?_; (conv => whnf); fail_if_success (show forceL _ _))
        | refine TkE.mk _ rfl rfl ?_
        | refine Res.mk ?_
        | refine LateE.mk (by repeat first | exact True.intro | refine And.intro (by kernel_rfl) ?_) ?_
        | refine DsE.mk [] rfl ?_
        | refine LoopEnd.go _ _ ⟨.inl rfl, rfl, rfl, by first | rfl | (repeat first | exact all_nil _ | refine all_la _ _ _ _ _ ?_)⟩ ?_
        | ((with_reducible refine EqE.idW ?_); first | refine EqE.mk _ (n_iadd _ _ (by omega)) ?_ | with_reducible refine EqE.mk _ (n_i64 _ (by omega)) ?_ | with_reducible refine EqE.mk _ (n_succ _ (by omega)) ?_ | refine EqE.mk _ (wrap_in (by omega) (by omega)) ?_ | refine EqE.mk _ rfl ?_)
        | ((with_reducible refine EqE.idM ?_); refine EqE.mk _ rfl ?_)
        | ((with_reducible refine EqE.idI ?_); first | refine EqE.mk _ (max_eq _ _) ?_ | refine EqE.mk _ (min_eq _ _) ?_)
        | ((with_reducible refine EqE.idS ?_); first | (refine EqE.fP ?_; (conv => whnf); fail_if_success (show forceL _ _)) | refine EqE.mk _ rfl ?_)
        | ((with_reducible refine EqE.idL ?_); first | refine EqE.mk _ (sl_own _ _ _ _ (by omega) (by omega) rfl) ?_ | refine EqE.mk _ rfl ?_)
        | refine EqE.mk _ rfl ?_
        | refine Cd.mk (Nat.le_of_ble_eq_true rfl) ?_
        | refine Cd.mk ⟨rfl, rfl⟩ ?_
        | refine Cd.mk (by first | omega | (simp only [length_limbs, length_la]; omega)) ?_
        | refine Cd.mk ?_ ?_)
      exact ⟨_, ⟨4, _, _, rfl, by decide, rL1, rH1, rfl, rfl⟩, by decide⟩
    · repeat' ((conv => whnf); first
        | with_reducible refine CallX.data ?_
        | refine CallE.mk _ _ (o2) ?_
        | refine CallE.mk _ _ (o4) ?_
        | refine CallE.mk _ _ (q3) ?_
        | refine CallE.mk _ _ (iNi) ?_
        | refine CallE.mk _ _ (eQi) ?_
        | refine CallE.mk _ _ (eLi) ?_
        | refine CallE.mk _ _ (eHi) ?_
        | refine Cd.mk ⟨by decide, by decide⟩ ?_
        | refine RegE.early (Cd.mk (show regOk _ _ _ _ = true by kernel_rfl) ?_)
        | refine Cd.mk rfl ?_
        | refine Br.t ?_
        | refine Br.f ?_
        | with_reducible refine Br.eqd ?_
        | with_reducible refine Br.eqb ?_
        | with_reducible refine Br.dec (fun _ => ?_) (fun _ => ?_)
        | with_reducible refine Br.ndec (fun _ => ?_) (fun _ => ?_)
        | refine Br.mk (fun _ => ?_) (fun _ => ?_)
        | refine NthE.mk _ rfl ?_
        | refine And.intro (fun _ => ?_) ?_
        | (refine TkE.fL ?_; (conv => whnf); fail_if_success (show forceL _ _))
        | refine TkE.mk _ rfl rfl ?_
        | refine Res.mk ?_
        | refine LateE.mk (by repeat first | exact True.intro | refine And.intro (by kernel_rfl) ?_) ?_
        | refine DsE.mk [] rfl ?_
        | refine LoopEnd.go _ _ ⟨.inl rfl, rfl, rfl, by first | rfl | (repeat first | exact all_nil _ | refine all_la _ _ _ _ _ ?_)⟩ ?_
        | ((with_reducible refine EqE.idW ?_); first | refine EqE.mk _ (n_iadd _ _ (by omega)) ?_ | with_reducible refine EqE.mk _ (n_i64 _ (by omega)) ?_ | with_reducible refine EqE.mk _ (n_succ _ (by omega)) ?_ | refine EqE.mk _ (wrap_in (by omega) (by omega)) ?_ | refine EqE.mk _ rfl ?_)
        | ((with_reducible refine EqE.idM ?_); refine EqE.mk _ rfl ?_)
        | ((with_reducible refine EqE.idI ?_); first | refine EqE.mk _ (max_eq _ _) ?_ | refine EqE.mk _ (min_eq _ _) ?_)
        | ((with_reducible refine EqE.idS ?_); first | (refine EqE.fP ?_; (conv => whnf); fail_if_success (show forceL _ _)) | refine EqE.mk _ rfl ?_)
        | ((with_reducible refine EqE.idL ?_); first | refine EqE.mk _ (sl_own _ _ _ _ (by omega) (by omega) rfl) ?_ | refine EqE.mk _ rfl ?_)
        | refine EqE.mk _ rfl ?_
        | refine Cd.mk (Nat.le_of_ble_eq_true rfl) ?_
        | refine Cd.mk ⟨rfl, rfl⟩ ?_
        | refine Cd.mk (by first | omega | (simp only [length_limbs, length_la]; omega)) ?_
        | refine Cd.mk ?_ ?_)
      exact ⟨_, ⟨4, _, _, rfl, by decide, rL1, rH1, rfl, rfl⟩, by decide⟩
    · repeat' ((conv => whnf); first
        | with_reducible refine CallX.data ?_
        | refine CallE.mk _ _ (o2) ?_
        | refine CallE.mk _ _ (o4) ?_
        | refine CallE.mk _ _ (q3) ?_
        | refine CallE.mk _ _ (iNi) ?_
        | refine CallE.mk _ _ (eQi) ?_
        | refine CallE.mk _ _ (eLi) ?_
        | refine CallE.mk _ _ (eHi) ?_
        | refine Cd.mk ⟨by decide, by decide⟩ ?_
        | refine RegE.early (Cd.mk (show regOk _ _ _ _ = true by kernel_rfl) ?_)
        | refine Cd.mk rfl ?_
        | refine Br.t ?_
        | refine Br.f ?_
        | with_reducible refine Br.eqd ?_
        | with_reducible refine Br.eqb ?_
        | with_reducible refine Br.dec (fun _ => ?_) (fun _ => ?_)
        | with_reducible refine Br.ndec (fun _ => ?_) (fun _ => ?_)
        | refine Br.mk (fun _ => ?_) (fun _ => ?_)
        | refine NthE.mk _ rfl ?_
        | refine And.intro (fun _ => ?_) ?_
        | (refine TkE.fL ?_; (conv => whnf); fail_if_success (show forceL _ _))
        | refine TkE.mk _ rfl rfl ?_
        | refine Res.mk ?_
        | refine LateE.mk (by repeat first | exact True.intro | refine And.intro (by kernel_rfl) ?_) ?_
        | refine DsE.mk [] rfl ?_
        | refine LoopEnd.go _ _ ⟨.inl rfl, rfl, rfl, by first | rfl | (repeat first | exact all_nil _ | refine all_la _ _ _ _ _ ?_)⟩ ?_
        | ((with_reducible refine EqE.idW ?_); first | refine EqE.mk _ (n_iadd _ _ (by omega)) ?_ | with_reducible refine EqE.mk _ (n_i64 _ (by omega)) ?_ | with_reducible refine EqE.mk _ (n_succ _ (by omega)) ?_ | refine EqE.mk _ (wrap_in (by omega) (by omega)) ?_ | refine EqE.mk _ rfl ?_)
        | ((with_reducible refine EqE.idM ?_); refine EqE.mk _ rfl ?_)
        | ((with_reducible refine EqE.idI ?_); first | refine EqE.mk _ (max_eq _ _) ?_ | refine EqE.mk _ (min_eq _ _) ?_)
        | ((with_reducible refine EqE.idS ?_); first | (refine EqE.fP ?_; (conv => whnf); fail_if_success (show forceL _ _)) | refine EqE.mk _ rfl ?_)
        | ((with_reducible refine EqE.idL ?_); first | refine EqE.mk _ (sl_own _ _ _ _ (by omega) (by omega) rfl) ?_ | refine EqE.mk _ rfl ?_)
        | refine EqE.mk _ rfl ?_
        | refine Cd.mk (Nat.le_of_ble_eq_true rfl) ?_
        | refine Cd.mk ⟨rfl, rfl⟩ ?_
        | refine Cd.mk (by first | omega | (simp only [length_limbs, length_la]; omega)) ?_
        | refine Cd.mk ?_ ?_)
      exact ⟨_, ⟨4, _, _, rfl, by decide, rL1, rH1, rfl, rfl⟩, by decide⟩
    · repeat' ((conv => whnf); first
        | with_reducible refine CallX.data ?_
        | refine CallE.mk _ _ (o2) ?_
        | refine CallE.mk _ _ (o4) ?_
        | refine CallE.mk _ _ (q3) ?_
        | refine CallE.mk _ _ (iNi) ?_
        | refine CallE.mk _ _ (eQi) ?_
        | refine CallE.mk _ _ (eLi) ?_
        | refine CallE.mk _ _ (eHi) ?_
        | refine Cd.mk ⟨by decide, by decide⟩ ?_
        | refine RegE.early (Cd.mk (show regOk _ _ _ _ = true by kernel_rfl) ?_)
        | refine Cd.mk rfl ?_
        | refine Br.t ?_
        | refine Br.f ?_
        | with_reducible refine Br.eqd ?_
        | with_reducible refine Br.eqb ?_
        | with_reducible refine Br.dec (fun _ => ?_) (fun _ => ?_)
        | with_reducible refine Br.ndec (fun _ => ?_) (fun _ => ?_)
        | refine Br.mk (fun _ => ?_) (fun _ => ?_)
        | refine NthE.mk _ rfl ?_
        | refine And.intro (fun _ => ?_) ?_
        | (refine TkE.fL ?_; (conv => whnf); fail_if_success (show forceL _ _))
        | refine TkE.mk _ rfl rfl ?_
        | refine Res.mk ?_
        | refine LateE.mk (by repeat first | exact True.intro | refine And.intro (by kernel_rfl) ?_) ?_
        | refine DsE.mk [] rfl ?_
        | refine LoopEnd.go _ _ ⟨.inl rfl, rfl, rfl, by first | rfl | (repeat first | exact all_nil _ | refine all_la _ _ _ _ _ ?_)⟩ ?_
        | ((with_reducible refine EqE.idW ?_); first | refine EqE.mk _ (n_iadd _ _ (by omega)) ?_ | with_reducible refine EqE.mk _ (n_i64 _ (by omega)) ?_ | with_reducible refine EqE.mk _ (n_succ _ (by omega)) ?_ | refine EqE.mk _ (wrap_in (by omega) (by omega)) ?_ | refine EqE.mk _ rfl ?_)
        | ((with_reducible refine EqE.idM ?_); refine EqE.mk _ rfl ?_)
        | ((with_reducible refine EqE.idI ?_); first | refine EqE.mk _ (max_eq _ _) ?_ | refine EqE.mk _ (min_eq _ _) ?_)
        | ((with_reducible refine EqE.idS ?_); first | (refine EqE.fP ?_; (conv => whnf); fail_if_success (show forceL _ _)) | refine EqE.mk _ rfl ?_)
        | ((with_reducible refine EqE.idL ?_); first | refine EqE.mk _ (sl_own _ _ _ _ (by omega) (by omega) rfl) ?_ | refine EqE.mk _ rfl ?_)
        | refine EqE.mk _ rfl ?_
        | refine Cd.mk (Nat.le_of_ble_eq_true rfl) ?_
        | refine Cd.mk ⟨rfl, rfl⟩ ?_
        | refine Cd.mk (by first | omega | (simp only [length_limbs, length_la]; omega)) ?_
        | refine Cd.mk ?_ ?_)
      exact ⟨_, ⟨4, _, _, rfl, by decide, rL1, rH1, rfl, rfl⟩, by decide⟩
  · rw [rL] at hu'
    rw [rH] at hv'
    subst hu' hv'
    repeat' ((conv => whnf); first
      | with_reducible refine CallX.data ?_
      | refine CallE.mk _ _ (o1) ?_
      | refine CallE.mk _ _ (o2) ?_
      | refine CallE.mk _ _ (w1) ?_
      | refine CallE.mk _ _ (w2) ?_
      | refine CallE.mk _ _ (w3) ?_
      | refine CallE.mk _ _ (w4) ?_
      | refine CallE.mk _ _ (w5) ?_
      | refine CallE.mk _ _ (u1) ?_
      | refine CallE.mk _ _ (u2) ?_
      | refine CallE.mk _ _ (u3) ?_
      | refine CallE.mk _ _ (u4) ?_
      | refine CallE.mk _ _ (u5) ?_
      | refine RegE.early (Cd.mk (show regOk _ _ _ _ = true by kernel_rfl) ?_)
      | refine Cd.mk rfl ?_
      | refine Br.t ?_
      | refine Br.f ?_
      | with_reducible refine Br.eqd ?_
      | with_reducible refine Br.eqb ?_
      | with_reducible refine Br.dec (fun _ => ?_) (fun _ => ?_)
      | with_reducible refine Br.ndec (fun _ => ?_) (fun _ => ?_)
      | refine Br.mk (fun _ => ?_) (fun _ => ?_)
      | refine NthE.mk _ rfl ?_
      | refine And.intro (fun _ => ?_) ?_
      | (refine TkE.fL ?_; (conv => whnf); fail_if_success (show forceL _ _))
      | refine TkE.mk _ rfl rfl ?_
      | refine Res.mk ?_
      | refine LateE.mk (by repeat first | exact True.intro | refine And.intro (by kernel_rfl) ?_) ?_
      | refine DsE.mk [] rfl ?_
      | refine LoopEnd.go _ _ ⟨.inl rfl, rfl, rfl, by first | rfl | (repeat first | exact all_nil _ | refine all_la _ _ _ _ _ ?_)⟩ ?_
      | ((with_reducible refine EqE.idW ?_); first | refine EqE.mk K (by rw [wrap_in (by omega) (by omega)]; exact hK.symm) ?_ | refine EqE.mk _ (wrap_in (by omega) (by omega)) ?_ | with_reducible refine EqE.mk _ (n_i64 _ (by omega)) ?_ | with_reducible refine EqE.mk _ (n_succ _ (by omega)) ?_ | refine EqE.mk _ (wrap_in (by omega) (by omega)) ?_ | refine EqE.mk _ rfl ?_)
      | ((with_reducible refine EqE.idM ?_); first | refine EqE.mk _ (n_rem5 _) ?_ | refine EqE.mk _ rfl ?_)
      | ((with_reducible refine EqE.idI ?_); first | refine EqE.mk _ (max_eq _ _) ?_ | refine EqE.mk _ (min_eq _ _) ?_)
      | ((with_reducible refine EqE.idS ?_); first | (refine EqE.fP ?_; (conv => whnf); fail_if_success (show forceL _ _)) | refine EqE.mk _ rfl ?_)
      | ((with_reducible refine EqE.idL ?_); first | refine EqE.mk _ (sl_own _ _ _ _ (by omega) (by omega) rfl) ?_ | refine EqE.mk _ rfl ?_)
      | refine EqE.mk _ rfl ?_
      | refine Cd.mk (Nat.le_of_ble_eq_true rfl) ?_
      | refine Cd.mk ⟨rfl, rfl⟩ ?_
      | refine Cd.mk (by first | omega | (simp only [length_limbs, length_la]; omega)) ?_
      | refine Cd.mk ?_ ?_)
    rfl
theorem realends_at (r s : RC) (n : Int) (h0 : 0 ≤ n) (h1 : n ≤ 255) : Sim Tryd.prog G0 true 6 [.agg r.cells, .agg s.cells, .int .u8 n] (.bool true) := by
  obtain ⟨n, rfl⟩ := Int.eq_ofNat_of_zero_le h0
  exact realends_sim r s n (by omega)
end Go.Ev.Ar
