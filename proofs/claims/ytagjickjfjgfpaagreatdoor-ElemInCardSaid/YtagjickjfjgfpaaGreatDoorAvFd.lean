/- Contracts of the given functions, on data. Conditions stand in each theorem. -/
import Derived.Test.YtagjickjfjgfpaaGreatDoorGAvFa
set_option linter.unusedSimpArgs false
set_option linter.unusedVariables false
namespace Go.Ev.Ar
open Go Go.Ev Go.Proofs

/-- Exponents rise. -/
theorem exp_rise {a b : Cq} (p q : Int) (oa : Ord a) (ob : Ord b) (ha : mayP a = true) (hb : mayP b = true) (h : a.2 ≤ b.1) : (expV a p).1 ≤ (expV b q).2 := by
  have ka := mayP_iff.1 ha
  have kb := mayP_iff.1 hb
  have x := expV_has (z := a) (q := a.2) (p := p) ⟨oa, q_le.1 Rat.le_refl⟩ ka.2 ka.1 ka.2 (trnT (min (max p 2) 200 + 80) + trnT (min (max q 2) 200 + 80)) (by omega)
  have y := expV_has (z := b) (q := b.1) (p := q) ⟨q_le.1 Rat.le_refl, ob⟩ kb.1 kb.1 kb.2 (trnT (min (max p 2) 200 + 80) + trnT (min (max q 2) 200 + 80)) (by omega)
  have m := gr_mono (small_q ka.2) (small_q kb.1) (scl16_le h) (trnT (min (max p 2) 200 + 80) + trnT (min (max q 2) 200 + 80))
  exact q_le.1 (Rat.le_trans x.1 (Rat.le_trans m y.2))
/-- A number of both. -/
theorem touch_pt {a b m : Cq} (oa : Ord a) (ob : Ord b) (ha : mayP a = true) (hb : mayP b = true) (h : imeet a b = (m, true)) : ∃ q, ihas a q ∧ ihas b q ∧ smallP q = true := by
  have ka := mayP_iff.1 ha
  have kb := mayP_iff.1 hb
  unfold imeet at h
  split at h
  · rename_i g
    refine ⟨mx a.1 b.1, ?_, ?_, ?_⟩
    · have := le_mx_l a.1 b.1; have := mn_le_l a.2 b.2; exact ⟨by grind, by grind⟩
    · have := le_mx_r a.1 b.1; have := mn_le_r a.2 b.2; exact ⟨by grind, by grind⟩
    · rcases mx_or a.1 b.1 with e | e <;> rw [e]
      · exact ka.1
      · exact kb.1
  · cases (congrArg Prod.snd h)
theorem exp_touch {a b m : Cq} (p q : Int) (oa : Ord a) (ob : Ord b) (ha : mayP a = true) (hb : mayP b = true) (h : imeet a b = (m, true)) :
    imeet (expV a p) (expV b q) = ((imeet (expV a p) (expV b q)).1, true) ∧ imeet (bothV a p).2 (bothV b q).2 = ((imeet (bothV a p).2 (bothV b q).2).1, true) := by
  obtain ⟨x, h1, h2, h3⟩ := touch_pt oa ob ha hb h
  have ka := mayP_iff.1 ha
  have kb := mayP_iff.1 hb
  exact ⟨mm_meets (expV_mm p h1 h3 ha) (expV_mm q h2 h3 hb), mm_meets (bothV_has p h1 h3 ka.1 ka.2).2 (bothV_has q h2 h3 kb.1 kb.2).2⟩
set_option maxRecDepth 10000 in
set_option maxHeartbeats 8000000 in
theorem elemin_sim (r s : RC) (n m : Nat) (hn : n < 256) (hm : m < 256) : Sim Tryz.prog G0 true 6 [.agg r.cells, .agg s.cells, .int .u8 n, .int .u8 m] (.bool true) := by
  have sf := fewreal23_sim r
  have sg := fewreal23_sim s
  have fr := fun h => few_cx23 (r := r) (RC.f23_few h)
  have fs := fun h => few_cx23 (r := s) (RC.f23_few h)
  have gr' := fun h => cxS_few (r := r) (RC.f23_few h)
  have gs := fun h => cxS_few (r := s) (RC.f23_few h)
  obtain ⟨b1, l1, e1, c1, k1, f1⟩ := r
  obtain ⟨b2, l2, e2, c2, k2, f2⟩ := s
  cases h1 : RC.f23 ⟨b1, l1, e1, c1, k1, f1⟩
  · rw [h1] at sf
    refine sim_mk tab_ok Tryz.func6 rfl (by kernel_rfl) rfl ⟨Nat.le_of_ble_eq_true rfl, Nat.le_of_ble_eq_true rfl⟩ ?_
    repeat' ((conv => whnf); first
      | with_reducible refine CallX.data ?_
      | refine CallE.mk _ _ (known23_sim) ?_
      | refine CallE.mk _ _ (sf) ?_
      | refine RegE.early (Cd.mk (show regOk _ _ _ _ = true by kernel_rfl) ?_)
      | refine Cd.mk rfl ?_
      | refine Br.t ?_
      | refine Br.f ?_
      | (refine TkE.fL ?_; (conv => whnf); fail_if_success (show forceL _ _))
      | refine Res.mk ?_)
    rfl
  rw [h1] at sf
  cases h2 : RC.f23 ⟨b2, l2, e2, c2, k2, f2⟩
  · rw [h2] at sg
    refine sim_mk tab_ok Tryz.func6 rfl (by kernel_rfl) rfl ⟨Nat.le_of_ble_eq_true rfl, Nat.le_of_ble_eq_true rfl⟩ ?_
    repeat' ((conv => whnf); first
      | with_reducible refine CallX.data ?_
      | refine CallE.mk _ _ (known23_sim) ?_
      | refine CallE.mk _ _ (sf) ?_
      | refine CallE.mk _ _ (sg) ?_
      | refine RegE.early (Cd.mk (show regOk _ _ _ _ = true by kernel_rfl) ?_)
      | refine Cd.mk rfl ?_
      | refine Br.t ?_
      | refine Br.f ?_
      | (refine TkE.fL ?_; (conv => whnf); fail_if_success (show forceL _ _))
      | refine Res.mk ?_)
    rfl
  rw [h2] at sg
  obtain ⟨xr, xf, xh⟩ := fr h1
  obtain ⟨yr, yf, yh⟩ := fs h2
  have xs := gr' h1
  have ys := gs h2
  clear fr fs gr' gs
  generalize RC.val ⟨b1, l1, e1, c1, k1, f1⟩ = x at xr xf xh xs
  generalize RC.val ⟨b2, l2, e2, c2, k2, f2⟩ = y at yr yf yh ys
  obtain ⟨p, hp⟩ : ∃ p, ((n % 100 : Nat) : Int) + 2 = p := ⟨_, rfl⟩
  obtain ⟨q, hq⟩ : ∃ q, ((m % 100 : Nat) : Int) + 2 = q := ⟨_, rfl⟩
  have A := rReal_is xf (xh.mono (by decide)) rfl
  have B := rReal_is yf (yh.mono (by decide)) rfl
  have oa := rof_ord x
  have ob := rof_ord y
  have ha := xh.rof
  have hb := yh.rof
  have b1' := beyond_sim (z := rof x) (ha.mono (by decide)) oa rfl
  have b2' := beyond_sim (z := rof y) (hb.mono (by decide)) ob rfl
  cases mx' : mayP x
  · rw [mayP_rof_iff, mx'] at b1'
    clear xs xf yf ys xr yr oa ob ha hb xh yh mx'
    generalize rof x = a at *
    generalize rof y = b at *
    obtain ⟨_, _⟩ := a
    obtain ⟨_, _⟩ := b
    refine sim_mk tab_ok Tryz.func6 rfl (by kernel_rfl) rfl ⟨Nat.le_of_ble_eq_true rfl, Nat.le_of_ble_eq_true rfl⟩ ?_
    repeat' ((conv => whnf); first
      | with_reducible refine CallX.data ?_
      | refine CallE.mk _ _ (known23_sim) ?_
      | refine CallE.mk _ _ (sf) ?_
      | refine CallE.mk _ _ (sg) ?_
      | refine CallE.mk _ _ (A) ?_
      | refine CallE.mk _ _ (B) ?_
      | refine CallE.mk _ _ (b1') ?_
      | refine RegE.early (Cd.mk (show regOk _ _ _ _ = true by kernel_rfl) ?_)
      | refine Cd.mk rfl ?_
      | refine Br.t ?_
      | refine Br.f ?_
      | (refine TkE.fL ?_; (conv => whnf); fail_if_success (show forceL _ _))
      | refine Res.mk ?_
      | ((with_reducible refine EqE.idS ?_); (refine EqE.fP ?_; (conv => whnf); fail_if_success (show forceL _ _)))
      | refine Cd.mk (Nat.le_of_ble_eq_true rfl) ?_)
    rfl
  have ma : mayP (rof x) = true := by rw [mayP_rof_iff]; exact mx'
  rw [ma] at b1'
  cases my : mayP y
  · rw [mayP_rof_iff, my] at b2'
    clear xs xf yf ys xr yr oa ob ha hb xh yh ma my
    generalize rof x = a at *
    generalize rof y = b at *
    obtain ⟨_, _⟩ := a
    obtain ⟨_, _⟩ := b
    refine sim_mk tab_ok Tryz.func6 rfl (by kernel_rfl) rfl ⟨Nat.le_of_ble_eq_true rfl, Nat.le_of_ble_eq_true rfl⟩ ?_
    repeat' ((conv => whnf); first
      | with_reducible refine CallX.data ?_
      | refine CallE.mk _ _ (known23_sim) ?_
      | refine CallE.mk _ _ (sf) ?_
      | refine CallE.mk _ _ (sg) ?_
      | refine CallE.mk _ _ (A) ?_
      | refine CallE.mk _ _ (B) ?_
      | refine CallE.mk _ _ (b1') ?_
      | refine CallE.mk _ _ (b2') ?_
      | refine RegE.early (Cd.mk (show regOk _ _ _ _ = true by kernel_rfl) ?_)
      | refine Cd.mk rfl ?_
      | refine Br.t ?_
      | refine Br.f ?_
      | (refine TkE.fL ?_; (conv => whnf); fail_if_success (show forceL _ _))
      | refine Res.mk ?_
      | ((with_reducible refine EqE.idS ?_); (refine EqE.fP ?_; (conv => whnf); fail_if_success (show forceL _ _)))
      | refine Cd.mk (Nat.le_of_ble_eq_true rfl) ?_)
    rfl
  have mb : mayP (rof y) = true := by rw [mayP_rof_iff]; exact my
  rw [mb] at b2'
  have rise := exp_rise p q oa ob ma mb
  have tch := fun m => exp_touch (m := m) p q oa ob ma mb
  have e1' := eExp_ok (p := p) xs (xh.mono (by decide)) mx' rfl
  have e2' := eExp_ok (p := q) ys (yh.mono (by decide)) my rfl
  have e3' := eSin_ok (p := p) xs (xh.mono (by decide)) mx' rfl
  have e4' := eSin_ok (p := q) ys (yh.mono (by decide)) my rfl
  have he := expV_hc p ma
  have hf := expV_hc q mb
  have hs := (bothV_hc p oa ma).2
  have ht := (bothV_hc q ob mb).2
  have d1 := rdcmp_sim (ha.2.mono (show 1320 ≤ 49000 by decide)) (hb.1.mono (show 1320 ≤ 49000 by decide)) ((ha.2.sub hb.1 (c := 1321) (by decide)).mono (by decide))
  have d2 := rdcmp_sim (he.1.mono (show 17200 ≤ 49000 by decide)) (hf.2.mono (show 17200 ≤ 49000 by decide)) ((he.1.sub hf.2 (c := 17201) (by decide)).mono (by decide))
  have cond : dsg ((rof x).2 - (rof y).1) > 0 ∨ (dsg ((rof x).2 - (rof y).1) ≤ 0 ∧ dsg ((expV (rof x) p).1 - (expV (rof y) q).2) ≤ 0) := by
    rcases Classical.em ((rof x).2 ≤ (rof y).1) with g | g
    · have := rise g
      exact .inr ⟨dsg_le.2 (by grind), dsg_le.2 (by grind)⟩
    · exact .inl (dsg_gt.2 (by grind))
  obtain ⟨⟨m0, t0⟩, hM⟩ : ∃ m, imeet (rof x) (rof y) = m := ⟨_, rfl⟩
  have T0 := rMeet_is (ha.mono (by decide)) (hb.mono (by decide)) hM
  have key : t0 = true → Sim Tryz.prog G0 false 32 [cxD (expV (rof x) p), cxD (expV (rof y) q)] (.tup [cxD (imeet (expV (rof x) p) (expV (rof y) q)).1, .bool true]) ∧ Sim Tryz.prog G0 false 32 [cxD (bothV (rof x) p).2, cxD (bothV (rof y) q).2] (.tup [cxD (imeet (bothV (rof x) p).2 (bothV (rof y) q).2).1, .bool true]) := fun e => by
    subst e
    obtain ⟨k1, k2⟩ := tch m0 hM
    exact ⟨rMeet_is (he.mono (by decide)) (hf.mono (by decide)) k1, rMeet_is (hs.mono (by decide)) (ht.mono (by decide)) k2⟩
  clear xs xf yf ys xr yr oa ob ha hb xh yh ma my mb mx' rise tch he hf hs ht hM
  generalize (imeet (expV (rof x) p) (expV (rof y) q)).1 = u at *
  generalize (imeet (bothV (rof x) p).2 (bothV (rof y) q).2).1 = v at *
  generalize expV (rof x) p = e at *
  generalize expV (rof y) q = f at *
  generalize bothV (rof x) p = V at *
  generalize bothV (rof y) q = W at *
  generalize rof x = a at *
  generalize rof y = b at *
  obtain ⟨_, _⟩ := a
  obtain ⟨_, _⟩ := b
  obtain ⟨_, _⟩ := e
  obtain ⟨_, _⟩ := f
  obtain ⟨_, _⟩ := u
  obtain ⟨_, _⟩ := v
  obtain ⟨_, _⟩ := m0
  obtain ⟨⟨_, _⟩, ⟨_, _⟩⟩ := V
  obtain ⟨⟨_, _⟩, ⟨_, _⟩⟩ := W
  dsimp only at *
  cases t0
  · clear key
    rcases cond with g | ⟨g1, g2⟩
    · refine sim_mk tab_ok Tryz.func6 rfl (by kernel_rfl) rfl ⟨Nat.le_of_ble_eq_true rfl, Nat.le_of_ble_eq_true rfl⟩ ?_
      repeat' ((conv => whnf); first
        | with_reducible refine CallX.data ?_
        | with_reducible refine Br.dec (fun h => absurd h (by omega)) (fun _ => ?_)
        | refine CallE.mk _ _ (known23_sim) ?_
        | refine CallE.mk _ _ (sf) ?_
        | refine CallE.mk _ _ (sg) ?_
        | refine CallE.mk _ _ (A) ?_
        | refine CallE.mk _ _ (B) ?_
        | refine CallE.mk _ _ (b1') ?_
        | refine CallE.mk _ _ (b2') ?_
        | refine CallE.mk _ _ (e1') ?_
        | refine CallE.mk _ _ (e2') ?_
        | refine CallE.mk _ _ (e3') ?_
        | refine CallE.mk _ _ (e4') ?_
        | refine CallE.mk _ _ (d1) ?_
        | refine CallE.mk _ _ (T0) ?_
        | refine RegE.early (Cd.mk (show regOk _ _ _ _ = true by kernel_rfl) ?_)
        | refine Cd.mk rfl ?_
        | refine Br.t ?_
        | refine Br.f ?_
        | refine NthE.mk _ rfl ?_
        | (refine TkE.fL ?_; (conv => whnf); fail_if_success (show forceL _ _))
        | refine Res.mk ?_
        | ((with_reducible refine EqE.idW ?_); first | refine EqE.mk p ((wrap_in (by omega) (by omega)).trans hp) ?_ | refine EqE.mk q ((wrap_in (by omega) (by omega)).trans hq) ?_ | with_reducible refine EqE.mk _ (n_i64 _ (by omega)) ?_)
        | ((with_reducible refine EqE.idM ?_); refine EqE.mk _ (n_rem100 _) ?_)
        | ((with_reducible refine EqE.idS ?_); (refine EqE.fP ?_; (conv => whnf); fail_if_success (show forceL _ _)))
        | refine Cd.mk (Nat.le_of_ble_eq_true rfl) ?_
        | refine Cd.mk (by first | omega | (simp only [length_limbs, length_la]; omega)) ?_)
      rfl
    · refine sim_mk tab_ok Tryz.func6 rfl (by kernel_rfl) rfl ⟨Nat.le_of_ble_eq_true rfl, Nat.le_of_ble_eq_true rfl⟩ ?_
      repeat' ((conv => whnf); first
        | with_reducible refine CallX.data ?_
        | with_reducible refine Br.dec (fun _ => ?_) (fun h => absurd (by omega) h)
        | with_reducible refine Br.dec (fun h => absurd h (by omega)) (fun _ => ?_)
        | refine CallE.mk _ _ (known23_sim) ?_
        | refine CallE.mk _ _ (sf) ?_
        | refine CallE.mk _ _ (sg) ?_
        | refine CallE.mk _ _ (A) ?_
        | refine CallE.mk _ _ (B) ?_
        | refine CallE.mk _ _ (b1') ?_
        | refine CallE.mk _ _ (b2') ?_
        | refine CallE.mk _ _ (e1') ?_
        | refine CallE.mk _ _ (e2') ?_
        | refine CallE.mk _ _ (e3') ?_
        | refine CallE.mk _ _ (e4') ?_
        | refine CallE.mk _ _ (d1) ?_
        | refine CallE.mk _ _ (d2) ?_
        | refine CallE.mk _ _ (T0) ?_
        | refine RegE.early (Cd.mk (show regOk _ _ _ _ = true by kernel_rfl) ?_)
        | refine Cd.mk rfl ?_
        | refine Br.t ?_
        | refine Br.f ?_
        | refine NthE.mk _ rfl ?_
        | (refine TkE.fL ?_; (conv => whnf); fail_if_success (show forceL _ _))
        | refine Res.mk ?_
        | ((with_reducible refine EqE.idW ?_); first | refine EqE.mk p ((wrap_in (by omega) (by omega)).trans hp) ?_ | refine EqE.mk q ((wrap_in (by omega) (by omega)).trans hq) ?_ | with_reducible refine EqE.mk _ (n_i64 _ (by omega)) ?_)
        | ((with_reducible refine EqE.idM ?_); refine EqE.mk _ (n_rem100 _) ?_)
        | ((with_reducible refine EqE.idS ?_); (refine EqE.fP ?_; (conv => whnf); fail_if_success (show forceL _ _)))
        | refine Cd.mk (Nat.le_of_ble_eq_true rfl) ?_
        | refine Cd.mk (by first | omega | (simp only [length_limbs, length_la]; omega)) ?_)
      rfl
  · obtain ⟨T1, T2⟩ := key rfl
    rcases cond with g | ⟨g1, g2⟩
    · refine sim_mk tab_ok Tryz.func6 rfl (by kernel_rfl) rfl ⟨Nat.le_of_ble_eq_true rfl, Nat.le_of_ble_eq_true rfl⟩ ?_
      repeat' ((conv => whnf); first
        | with_reducible refine CallX.data ?_
        | with_reducible refine Br.dec (fun h => absurd h (by omega)) (fun _ => ?_)
        | refine CallE.mk _ _ (known23_sim) ?_
        | refine CallE.mk _ _ (sf) ?_
        | refine CallE.mk _ _ (sg) ?_
        | refine CallE.mk _ _ (A) ?_
        | refine CallE.mk _ _ (B) ?_
        | refine CallE.mk _ _ (b1') ?_
        | refine CallE.mk _ _ (b2') ?_
        | refine CallE.mk _ _ (e1') ?_
        | refine CallE.mk _ _ (e2') ?_
        | refine CallE.mk _ _ (e3') ?_
        | refine CallE.mk _ _ (e4') ?_
        | refine CallE.mk _ _ (d1) ?_
        | refine CallE.mk _ _ (T0) ?_
        | refine CallE.mk _ _ (T1) ?_
        | refine CallE.mk _ _ (T2) ?_
        | refine RegE.early (Cd.mk (show regOk _ _ _ _ = true by kernel_rfl) ?_)
        | refine Cd.mk rfl ?_
        | refine Br.t ?_
        | refine Br.f ?_
        | refine NthE.mk _ rfl ?_
        | (refine TkE.fL ?_; (conv => whnf); fail_if_success (show forceL _ _))
        | refine Res.mk ?_
        | ((with_reducible refine EqE.idW ?_); first | refine EqE.mk p ((wrap_in (by omega) (by omega)).trans hp) ?_ | refine EqE.mk q ((wrap_in (by omega) (by omega)).trans hq) ?_ | with_reducible refine EqE.mk _ (n_i64 _ (by omega)) ?_)
        | ((with_reducible refine EqE.idM ?_); refine EqE.mk _ (n_rem100 _) ?_)
        | ((with_reducible refine EqE.idS ?_); (refine EqE.fP ?_; (conv => whnf); fail_if_success (show forceL _ _)))
        | refine Cd.mk (Nat.le_of_ble_eq_true rfl) ?_
        | refine Cd.mk (by first | omega | (simp only [length_limbs, length_la]; omega)) ?_)
      rfl
    · refine sim_mk tab_ok Tryz.func6 rfl (by kernel_rfl) rfl ⟨Nat.le_of_ble_eq_true rfl, Nat.le_of_ble_eq_true rfl⟩ ?_
      repeat' ((conv => whnf); first
        | with_reducible refine CallX.data ?_
        | with_reducible refine Br.dec (fun _ => ?_) (fun h => absurd (by omega) h)
        | with_reducible refine Br.dec (fun h => absurd h (by omega)) (fun _ => ?_)
        | refine CallE.mk _ _ (known23_sim) ?_
        | refine CallE.mk _ _ (sf) ?_
        | refine CallE.mk _ _ (sg) ?_
        | refine CallE.mk _ _ (A) ?_
        | refine CallE.mk _ _ (B) ?_
        | refine CallE.mk _ _ (b1') ?_
        | refine CallE.mk _ _ (b2') ?_
        | refine CallE.mk _ _ (e1') ?_
        | refine CallE.mk _ _ (e2') ?_
        | refine CallE.mk _ _ (e3') ?_
        | refine CallE.mk _ _ (e4') ?_
        | refine CallE.mk _ _ (d1) ?_
        | refine CallE.mk _ _ (d2) ?_
        | refine CallE.mk _ _ (T0) ?_
        | refine CallE.mk _ _ (T1) ?_
        | refine CallE.mk _ _ (T2) ?_
        | refine RegE.early (Cd.mk (show regOk _ _ _ _ = true by kernel_rfl) ?_)
        | refine Cd.mk rfl ?_
        | refine Br.t ?_
        | refine Br.f ?_
        | refine NthE.mk _ rfl ?_
        | (refine TkE.fL ?_; (conv => whnf); fail_if_success (show forceL _ _))
        | refine Res.mk ?_
        | ((with_reducible refine EqE.idW ?_); first | refine EqE.mk p ((wrap_in (by omega) (by omega)).trans hp) ?_ | refine EqE.mk q ((wrap_in (by omega) (by omega)).trans hq) ?_ | with_reducible refine EqE.mk _ (n_i64 _ (by omega)) ?_)
        | ((with_reducible refine EqE.idM ?_); refine EqE.mk _ (n_rem100 _) ?_)
        | ((with_reducible refine EqE.idS ?_); (refine EqE.fP ?_; (conv => whnf); fail_if_success (show forceL _ _)))
        | refine Cd.mk (Nat.le_of_ble_eq_true rfl) ?_
        | refine Cd.mk (by first | omega | (simp only [length_limbs, length_la]; omega)) ?_)
      rfl
theorem elemin_at (r s : RC) (n m : Int) (h0 : 0 ≤ n) (h1 : n ≤ 255) (h2 : 0 ≤ m) (h3 : m ≤ 255) : Sim Tryz.prog G0 true 6 [.agg r.cells, .agg s.cells, .int .u8 n, .int .u8 m] (.bool true) := by
  obtain ⟨n, rfl⟩ := Int.eq_ofNat_of_zero_le h0
  obtain ⟨m, rfl⟩ := Int.eq_ofNat_of_zero_le h2
  exact elemin_sim r s n m (by omega) (by omega)
end Go.Ev.Ar
