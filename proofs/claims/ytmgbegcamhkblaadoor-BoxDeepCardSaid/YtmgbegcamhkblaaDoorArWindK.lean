/- Contracts of the given functions, on data. Conditions stand in each theorem. -/
import Derived.Test.YtmgbegcamhkblaaDoorArWind
set_option linter.unusedSimpArgs false
set_option linter.unusedVariables false
namespace Go.Ev.Ar
open Go Go.Ev Go.Proofs

theorem ht_one (n : Int) (h : n.natAbs ≤ 8) : Ht 100 (dof n 0) := Ht.dof (a := 64) (b := 0) (Zt.small (by omega) (by decide)) (by decide) (by decide) (by decide)
theorem hc_kz {m n : Int} (h : m.natAbs ≤ 8) (h2 : n.natAbs ≤ 8) : Hc 100 (dof m 0, dof n 0) := ⟨ht_one m h, ht_one n h2⟩
theorem kx {m n : Int} (h : m.natAbs ≤ 8) (h2 : n.natAbs ≤ 8) : CxR (cxD (dof m 0, dof n 0)) (dof m 0, dof n 0) := .of ((hc_kz h h2).mono (by decide))
theorem knum : Sim Tryd.prog G0 true 28 [csl (kz.map RC.of)] (.tup [.int .i64 1, .bool true]) := by
  have h := number_sim (kz.map RC.of) (by decide) (by
    intro r hr
    obtain ⟨z, hz, rfl⟩ := List.mem_map.1 hr
    rw [RC.of_val]
    have h1 : Hc 100 z := by
      simp only [kz, List.mem_cons, List.not_mem_nil, or_false] at hz
      rcases hz with rfl | rfl | rfl | rfl <;> exact hc_kz (by decide) (by decide)
    exact ⟨CxR.of (h1.mono (by decide)), h1.mono (by decide)⟩)
  rw [List.map_map, show RC.val ∘ RC.of = id from funext RC.of_val, List.map_id, kz_number] at h
  exact h
theorem knil : Sim Tryd.prog G0 true 28 [csl []] (.tup [.int .i64 0, .bool false]) := number_sim [] (by decide) (by simp)
theorem kturn1 : Sim Tryd.prog G0 true 26 [cxD (dof 1 0, dof 0 0), cxD (dof 0 0, dof 1 0)] (.tup [.int .i64 1, .bool true]) := by
  have h := turn_sim (kx (m := 1) (n := 0) (by decide) (by decide)) (kx (m := 0) (n := 1) (by decide) (by decide)) ((hc_kz (by decide) (by decide)).mono (by decide)) ((hc_kz (by decide) (by decide)).mono (by decide))
  rwa [kz_turn] at h
theorem kturn2 : Sim Tryd.prog G0 true 26 [cxD (dof 1 0, dof 0 0), cxD (dof (-1) 0, dof 0 0)] (.tup [.int .i64 (turn (dof 1 0, dof 0 0) (dof (-1) 0, dof 0 0)).1, .bool false]) := by
  have h := turn_sim (kx (m := 1) (n := 0) (by decide) (by decide)) (kx (m := -1) (n := 0) (by decide) (by decide)) ((hc_kz (by decide) (by decide)).mono (by decide)) ((hc_kz (by decide) (by decide)).mono (by decide))
  rwa [kz_turn2] at h
theorem kquart1 : Sim Tryd.prog G0 true 30 [cxD (dof 0 0, dof (-1) 0)] (.int .i64 3) := by
  have h := quarter_sim (kx (m := 0) (n := -1) (by decide) (by decide))
  rwa [kz_quart] at h
theorem kquart2 : Sim Tryd.prog G0 true 30 [cxD (0, 0)] (.int .i64 (-1)) := quarter_sim (kx (m := 0) (n := 0) (by decide) (by decide))
theorem kside : Sim Tryd.prog G0 true 32 [cxD (dof 1 0, dof 0 0), cxD (dof 0 0, dof 1 0)] (.int .i64 1) := by
  have h := side_sim (kx (m := 1) (n := 0) (by decide) (by decide)) (kx (m := 0) (n := 1) (by decide) (by decide)) ((hc_kz (by decide) (by decide)).mono (by decide)) ((hc_kz (by decide) (by decide)).mono (by decide))
  rwa [kz_side] at h
theorem cx0 : D.agg [.bool false, sl [], .int .i64 0, .bool false, sl [], .int .i64 0] = cxD (0, 0) := by
  show _ = D.agg [.bool _, sl (ofN 0), .int .i64 _, .bool _, sl (ofN 0), .int .i64 _]
  rw [ofN_zero]; rfl
theorem kquart2' : Sim Tryd.prog G0 true 30 [D.agg [.bool false, sl [], .int .i64 0, .bool false, sl [], .int .i64 0]] (.int .i64 (-1)) := by rw [cx0]; exact kquart2
theorem known_sim : Sim Tryd.prog G0 true 22 [] (.bool true) := by
  refine sim_mk tab_ok Tryd.func22 rfl (by kernel_rfl) rfl ⟨Nat.le_of_ble_eq_true rfl, Nat.le_of_ble_eq_true rfl⟩ ?_
  repeat' ((conv => whnf); first
    | with_reducible refine CallX.data ?_
    | refine CallE.mk _ _ (rof_sim _ _ (by decide) (by decide) (by decide) (by decide)) ?_
    | refine DsE.mk ((kz.map RC.of).flatMap RC.cells) rfl ?_
    | refine CallE.mk _ _ (knum) ?_
    | refine CallE.mk _ _ (knil) ?_
    | refine CallE.mk _ _ (kturn1) ?_
    | refine CallE.mk _ _ (kturn2) ?_
    | refine CallE.mk _ _ (kquart1) ?_
    | refine CallE.mk _ _ (kquart2') ?_
    | refine CallE.mk _ _ (kside) ?_
    | refine Cd.mk (show regOk _ _ _ _ = true by kernel_rfl) ?_
    | refine Cd.mk rfl ?_
    | refine Br.t ?_
    | refine Br.f ?_
    | with_reducible refine Br.eqd ?_
    | with_reducible refine Br.eqb ?_
    | with_reducible refine Br.dec (fun _ => ?_) (fun _ => ?_)
    | with_reducible refine Br.ndec (fun _ => ?_) (fun _ => ?_)
    | refine Br.mk (fun _ => ?_) (fun _ => ?_)
    | refine NthE.mk _ rfl ?_
    | refine And.intro (fun _ => ?_) ?_
    | (refine TkE.fL ?_; (conv => whnf); fail_if_success (show forceL _ _))
    | refine TkE.mk _ rfl rfl ?_
    | refine Res.mk ?_
    | refine DsE.mk [] rfl ?_
    | refine LoopEnd.go _ _ ⟨.inl rfl, rfl, rfl, by first | rfl | (repeat first | exact all_nil _ | refine all_la _ _ _ _ _ ?_)⟩ ?_
    | ((with_reducible refine EqE.idW ?_); first  | with_reducible refine EqE.mk _ (n_i64 _ (by omega)) ?_ | with_reducible refine EqE.mk _ (n_succ _ (by omega)) ?_ | refine EqE.mk _ (wrap_in (by omega) (by omega)) ?_ | refine EqE.mk _ rfl ?_)
    | ((with_reducible refine EqE.idM ?_); first  | refine EqE.mk _ rfl ?_)
    | ((with_reducible refine EqE.idI ?_); first  | refine EqE.mk _ (max_eq _ _) ?_ | refine EqE.mk _ (min_eq _ _) ?_)
    | ((with_reducible refine EqE.idS ?_); first  | (refine EqE.fL ?_; (conv => whnf); fail_if_success (show forceL _ _)) | refine EqE.mk _ rfl ?_)
    | ((with_reducible refine EqE.idL ?_); first | refine EqE.mk (csl (kz.map RC.of)) rfl ?_ | refine EqE.mk _ (sl_own _ _ _ _ (by omega) (by omega) rfl) ?_ | refine EqE.mk _ rfl ?_)
    | refine EqE.mk _ rfl ?_
    | refine Cd.mk (Nat.le_of_ble_eq_true rfl) ?_
    | refine Cd.mk ⟨rfl, rfl⟩ ?_
    | refine Cd.mk (by first | omega | (simp only [length_limbs, length_la]; omega)) ?_
    | refine Cd.mk ?_ ?_)
  rfl
theorem few_cx {r : RC} (h : r.few 10 1000 = true) : CxR (.agg r.cells) r.val ∧ CxF (.agg r.cells) r.val ∧ Hc 1320 r.val := ⟨RC.cxR 1000 (by decide) (by decide) (by decide) h, cxF_few 1000 (by decide) (by decide) (by decide) h, RC.hc 1000 1320 (by decide) (by decide) h⟩
theorem windtells_sim (xs : List RC) (r s : RC) (hlen : xs.length ≤ 9223372036854775807) : Sim Tryd.prog G0 true 3 [csl xs, .agg r.cells, .agg s.cells] (.bool true) := by
  have sf := fewall_sim xs hlen
  have sr := fewcplx_sim r
  have ss := fewcplx_sim s
  have fr := few_cx (r := r)
  have fs := few_cx (r := s)
  obtain ⟨b, l, e, c, k, f⟩ := r
  obtain ⟨b', l', e', c', k', f'⟩ := s
  refine sim_mk tab_ok Tryd.func3 rfl (by kernel_rfl) rfl ⟨Nat.le_of_ble_eq_true rfl, Nat.le_of_ble_eq_true rfl⟩ ?_
  cases h1 : (xs.all (RC.few 10 1000) && decide (xs.length ≤ 60))
  · rw [h1] at sf
    repeat' ((conv => whnf); first
      | with_reducible refine CallX.data ?_
      | refine CallE.mk _ _ (known_sim) ?_
      | refine CallE.mk _ _ (sf) ?_
      | refine Cd.mk (show regOk _ _ _ _ = true by kernel_rfl) ?_
      | refine Cd.mk rfl ?_
      | refine Br.t ?_
      | refine Br.f ?_
      | with_reducible refine Br.eqd ?_
      | with_reducible refine Br.eqb ?_
      | with_reducible refine Br.dec (fun _ => ?_) (fun _ => ?_)
      | with_reducible refine Br.ndec (fun _ => ?_) (fun _ => ?_)
      | refine Br.mk (fun _ => ?_) (fun _ => ?_)
      | refine NthE.mk _ rfl ?_
      | refine And.intro (fun _ => ?_) ?_
      | (refine TkE.fL ?_; (conv => whnf); fail_if_success (show forceL _ _))
      | refine TkE.mk _ rfl rfl ?_
      | refine Res.mk ?_
      | refine DsE.mk [] rfl ?_
      | refine LoopEnd.go _ _ ⟨.inl rfl, rfl, rfl, by first | rfl | (repeat first | exact all_nil _ | refine all_la _ _ _ _ _ ?_)⟩ ?_
      | ((with_reducible refine EqE.idW ?_); first  | with_reducible refine EqE.mk _ (n_i64 _ (by omega)) ?_ | with_reducible refine EqE.mk _ (n_succ _ (by omega)) ?_ | refine EqE.mk _ (wrap_in (by omega) (by omega)) ?_ | refine EqE.mk _ rfl ?_)
      | ((with_reducible refine EqE.idM ?_); first  | refine EqE.mk _ rfl ?_)
      | ((with_reducible refine EqE.idI ?_); first  | refine EqE.mk _ (max_eq _ _) ?_ | refine EqE.mk _ (min_eq _ _) ?_)
      | ((with_reducible refine EqE.idS ?_); first  | (refine EqE.fL ?_; (conv => whnf); fail_if_success (show forceL _ _)) | refine EqE.mk _ rfl ?_)
      | ((with_reducible refine EqE.idL ?_); first  | refine EqE.mk _ (sl_own _ _ _ _ (by omega) (by omega) rfl) ?_ | refine EqE.mk _ rfl ?_)
      | refine EqE.mk _ rfl ?_
      | refine Cd.mk (Nat.le_of_ble_eq_true rfl) ?_
      | refine Cd.mk ⟨rfl, rfl⟩ ?_
      | refine Cd.mk (by first | omega | (simp only [length_limbs, length_la]; omega)) ?_
      | refine Cd.mk ?_ ?_)
    rfl
  cases h2 : RC.few 10 1000 ⟨b, l, e, c, k, f⟩
  · rw [h1] at sf
    rw [h2] at sr
    repeat' ((conv => whnf); first
      | with_reducible refine CallX.data ?_
      | refine CallE.mk _ _ (known_sim) ?_
      | refine CallE.mk _ _ (sf) ?_
      | refine CallE.mk _ _ (sr) ?_
      | refine Cd.mk (show regOk _ _ _ _ = true by kernel_rfl) ?_
      | refine Cd.mk rfl ?_
      | refine Br.t ?_
      | refine Br.f ?_
      | with_reducible refine Br.eqd ?_
      | with_reducible refine Br.eqb ?_
      | with_reducible refine Br.dec (fun _ => ?_) (fun _ => ?_)
      | with_reducible refine Br.ndec (fun _ => ?_) (fun _ => ?_)
      | refine Br.mk (fun _ => ?_) (fun _ => ?_)
      | refine NthE.mk _ rfl ?_
      | refine And.intro (fun _ => ?_) ?_
      | (refine TkE.fL ?_; (conv => whnf); fail_if_success (show forceL _ _))
      | refine TkE.mk _ rfl rfl ?_
      | refine Res.mk ?_
      | refine DsE.mk [] rfl ?_
      | refine LoopEnd.go _ _ ⟨.inl rfl, rfl, rfl, by first | rfl | (repeat first | exact all_nil _ | refine all_la _ _ _ _ _ ?_)⟩ ?_
      | ((with_reducible refine EqE.idW ?_); first  | with_reducible refine EqE.mk _ (n_i64 _ (by omega)) ?_ | with_reducible refine EqE.mk _ (n_succ _ (by omega)) ?_ | refine EqE.mk _ (wrap_in (by omega) (by omega)) ?_ | refine EqE.mk _ rfl ?_)
      | ((with_reducible refine EqE.idM ?_); first  | refine EqE.mk _ rfl ?_)
      | ((with_reducible refine EqE.idI ?_); first  | refine EqE.mk _ (max_eq _ _) ?_ | refine EqE.mk _ (min_eq _ _) ?_)
      | ((with_reducible refine EqE.idS ?_); first  | (refine EqE.fL ?_; (conv => whnf); fail_if_success (show forceL _ _)) | refine EqE.mk _ rfl ?_)
      | ((with_reducible refine EqE.idL ?_); first  | refine EqE.mk _ (sl_own _ _ _ _ (by omega) (by omega) rfl) ?_ | refine EqE.mk _ rfl ?_)
      | refine EqE.mk _ rfl ?_
      | refine Cd.mk (Nat.le_of_ble_eq_true rfl) ?_
      | refine Cd.mk ⟨rfl, rfl⟩ ?_
      | refine Cd.mk (by first | omega | (simp only [length_limbs, length_la]; omega)) ?_
      | refine Cd.mk ?_ ?_)
    rfl
  cases h3 : RC.few 10 1000 ⟨b', l', e', c', k', f'⟩
  · rw [h1] at sf
    rw [h2] at sr
    rw [h3] at ss
    repeat' ((conv => whnf); first
      | with_reducible refine CallX.data ?_
      | refine CallE.mk _ _ (known_sim) ?_
      | refine CallE.mk _ _ (sf) ?_
      | refine CallE.mk _ _ (sr) ?_
      | refine CallE.mk _ _ (ss) ?_
      | refine Cd.mk (show regOk _ _ _ _ = true by kernel_rfl) ?_
      | refine Cd.mk rfl ?_
      | refine Br.t ?_
      | refine Br.f ?_
      | with_reducible refine Br.eqd ?_
      | with_reducible refine Br.eqb ?_
      | with_reducible refine Br.dec (fun _ => ?_) (fun _ => ?_)
      | with_reducible refine Br.ndec (fun _ => ?_) (fun _ => ?_)
      | refine Br.mk (fun _ => ?_) (fun _ => ?_)
      | refine NthE.mk _ rfl ?_
      | refine And.intro (fun _ => ?_) ?_
      | (refine TkE.fL ?_; (conv => whnf); fail_if_success (show forceL _ _))
      | refine TkE.mk _ rfl rfl ?_
      | refine Res.mk ?_
      | refine DsE.mk [] rfl ?_
      | refine LoopEnd.go _ _ ⟨.inl rfl, rfl, rfl, by first | rfl | (repeat first | exact all_nil _ | refine all_la _ _ _ _ _ ?_)⟩ ?_
      | ((with_reducible refine EqE.idW ?_); first  | with_reducible refine EqE.mk _ (n_i64 _ (by omega)) ?_ | with_reducible refine EqE.mk _ (n_succ _ (by omega)) ?_ | refine EqE.mk _ (wrap_in (by omega) (by omega)) ?_ | refine EqE.mk _ rfl ?_)
      | ((with_reducible refine EqE.idM ?_); first  | refine EqE.mk _ rfl ?_)
      | ((with_reducible refine EqE.idI ?_); first  | refine EqE.mk _ (max_eq _ _) ?_ | refine EqE.mk _ (min_eq _ _) ?_)
      | ((with_reducible refine EqE.idS ?_); first  | (refine EqE.fL ?_; (conv => whnf); fail_if_success (show forceL _ _)) | refine EqE.mk _ rfl ?_)
      | ((with_reducible refine EqE.idL ?_); first  | refine EqE.mk _ (sl_own _ _ _ _ (by omega) (by omega) rfl) ?_ | refine EqE.mk _ rfl ?_)
      | refine EqE.mk _ rfl ?_
      | refine Cd.mk (Nat.le_of_ble_eq_true rfl) ?_
      | refine Cd.mk ⟨rfl, rfl⟩ ?_
      | refine Cd.mk (by first | omega | (simp only [length_limbs, length_la]; omega)) ?_
      | refine Cd.mk ?_ ?_)
    rfl
  rw [h1] at sf
  rw [h2] at sr
  rw [h3] at ss
  obtain ⟨fr1, fr2, fr3⟩ := fr h2
  obtain ⟨fs1, fs2, fs3⟩ := fs h3
  rw [Bool.and_eq_true] at h1
  have hm : ∀ r ∈ xs, CxR (.agg r.cells) r.val ∧ CxF (.agg r.cells) r.val ∧ Hc 1320 r.val := fun r hr => few_cx (List.all_eq_true.1 h1.1 r hr)
  have hl : xs.length ≤ 60 := of_decide_eq_true h1.2
  have sn := number_sim xs (by omega) (fun r hr => ⟨(hm r hr).1, (hm r hr).2.2.mono (by decide)⟩)
  have sn2 := rnumber_sim xs (by omega) (fun r hr => ⟨(hm r hr).2.1, (hm r hr).2.2.mono (by decide)⟩)
  repeat' ((conv => whnf); first
    | with_reducible refine CallX.data ?_
    | refine CallE.mk _ _ (known_sim) ?_
    | refine CallE.mk _ _ (sf) ?_
    | refine CallE.mk _ _ (sr) ?_
    | refine CallE.mk _ _ (ss) ?_
    | refine CallE.mk _ _ (rcplx_sim fr2) ?_
    | refine CallE.mk _ _ (rcplx_sim fs2) ?_
    | refine CallE.mk _ _ (turn_sim fr1 fs1 (fr3.mono (by decide)) (fs3.mono (by decide))) ?_
    | refine CallE.mk _ _ (rturn_sim (fr3.mono (by decide)) (fs3.mono (by decide))) ?_
    | refine CallE.mk _ _ (sn) ?_
    | refine CallE.mk _ _ (sn2) ?_
    | refine CallE.mk _ _ (quarter_sim fr1) ?_
    | refine CallE.mk _ _ (rquarter_sim (fr3.mono (by decide))) ?_
    | refine CallE.mk _ _ (side_sim fr1 fs1 (fr3.mono (by decide)) (fs3.mono (by decide))) ?_
    | refine CallE.mk _ _ (rside_sim (fr3.mono (by decide)) (fs3.mono (by decide))) ?_
    | refine Cd.mk (show regOk _ _ _ _ = true by kernel_rfl) ?_
    | refine Cd.mk rfl ?_
    | refine Br.t ?_
    | refine Br.f ?_
    | with_reducible refine Br.eqd ?_
    | with_reducible refine Br.eqb ?_
    | with_reducible refine Br.dec (fun _ => ?_) (fun _ => ?_)
    | with_reducible refine Br.ndec (fun _ => ?_) (fun _ => ?_)
    | refine Br.mk (fun _ => ?_) (fun _ => ?_)
    | refine NthE.mk _ rfl ?_
    | refine And.intro (fun _ => ?_) ?_
    | (refine TkE.fL ?_; (conv => whnf); fail_if_success (show forceL _ _))
    | refine TkE.mk _ rfl rfl ?_
    | refine Res.mk ?_
    | refine DsE.mk [] rfl ?_
    | refine LoopEnd.go _ _ ⟨.inl rfl, rfl, rfl, by first | rfl | (repeat first | exact all_nil _ | refine all_la _ _ _ _ _ ?_)⟩ ?_
    | ((with_reducible refine EqE.idW ?_); first  | with_reducible refine EqE.mk _ (n_i64 _ (by omega)) ?_ | with_reducible refine EqE.mk _ (n_succ _ (by omega)) ?_ | refine EqE.mk _ (wrap_in (by omega) (by omega)) ?_ | refine EqE.mk _ rfl ?_)
    | ((with_reducible refine EqE.idM ?_); first  | refine EqE.mk _ rfl ?_)
    | ((with_reducible refine EqE.idI ?_); first  | refine EqE.mk _ (max_eq _ _) ?_ | refine EqE.mk _ (min_eq _ _) ?_)
    | ((with_reducible refine EqE.idS ?_); first  | (refine EqE.fL ?_; (conv => whnf); fail_if_success (show forceL _ _)) | refine EqE.mk _ rfl ?_)
    | ((with_reducible refine EqE.idL ?_); first  | refine EqE.mk _ (sl_own _ _ _ _ (by omega) (by omega) rfl) ?_ | refine EqE.mk _ rfl ?_)
    | refine EqE.mk _ rfl ?_
    | refine Cd.mk (Nat.le_of_ble_eq_true rfl) ?_
    | refine Cd.mk ⟨rfl, rfl⟩ ?_
    | refine Cd.mk (by first | omega | (simp only [length_limbs, length_la]; omega)) ?_
    | refine Cd.mk ?_ ?_)
  show D.bool true = D.bool (decide (_ = _))
  rw [decide_eq_true rfl]
end Go.Ev.Ar
