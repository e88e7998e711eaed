/- Contracts of the given functions, on data. Conditions stand in each theorem. -/
import Derived.Test.YtmgbegcamhkblaaDoorArRo
set_option linter.unusedSimpArgs false
set_option linter.unusedVariables false
namespace Go.Ev.Ar
open Go Go.Ev Go.Proofs

theorem rshrint_sim {x : D} {m : Int} (n : Int) (hx : ZR x m) (hm : Zt 100000000 m) (h0 : 0 ≤ n) (hn : n ≤ 100000) : Sim Tryd.prog G0 false 182 [x, .int .i64 n] (zD (m / 2 ^ n.toNat)) := by
  have hK := one_shl_pos n
  obtain ⟨j, hj⟩ : ∃ j, j = 200000 := ⟨_, rfl⟩
  have hk := one_shl_lt n j (by omega) (by omega)
  have hr := one_shl_int n
  have hd := rdivint_sim _ hx hK hm (by omega) hk
  rw [hr] at hd
  obtain ⟨b, l, hl⟩ := hx
  refine sim_mk tab_ok Tryd.func182 rfl (by kernel_rfl) rfl (Nat.le_of_ble_eq_true rfl) ?_
  repeat' ((conv => whnf); first
    | refine DsE.mk (limbs [1]) rfl ?_
    | refine CallE.mk _ _ (rshl_sim _ _ (by simp) (by omega)) ?_
    | refine CallE.mk _ _ (hd) ?_
    | refine Cd.mk (show regOk _ _ _ _ = true by kernel_rfl) ?_
    | refine Cd.mk rfl ?_
    | refine Br.t ?_
    | refine Br.f ?_
    | with_reducible refine Br.eqd ?_
    | with_reducible refine Br.eqb ?_
    | with_reducible refine Br.dec (fun _ => ?_) (fun _ => ?_)
    | with_reducible refine Br.ndec (fun _ => ?_) (fun _ => ?_)
    | refine Br.mk (fun _ => ?_) (fun _ => ?_)
    | refine NthE.mk _ rfl ?_
    | refine And.intro (fun _ => ?_) ?_
    | refine TkE.mk _ rfl rfl ?_
    | refine Res.mk ?_
    | refine DsE.mk [] rfl ?_
    | refine LoopEnd.go _ _ ⟨.inl rfl, rfl, rfl, by first | rfl | (repeat first | exact all_nil _ | refine all_la _ _ _ _ _ ?_)⟩ ?_
    | ((with_reducible refine EqE.idW ?_); first  | with_reducible refine EqE.mk _ (n_i64 _ (by omega)) ?_ | with_reducible refine EqE.mk _ (n_succ _ (by omega)) ?_ | refine EqE.mk _ (wrap_in (by omega) (by omega)) ?_ | refine EqE.mk _ rfl ?_)
    | ((with_reducible refine EqE.idM ?_); first  | refine EqE.mk _ rfl ?_)
    | ((with_reducible refine EqE.idI ?_); first  | refine EqE.mk _ (max_eq _ _) ?_ | refine EqE.mk _ (min_eq _ _) ?_)
    | ((with_reducible refine EqE.idS ?_); first  | refine EqE.mk _ rfl ?_)
    | ((with_reducible refine EqE.idL ?_); first | refine EqE.mk (sl [1]) rfl ?_ | refine EqE.mk _ (sl_own _ _ _ _ (by omega) (by omega) rfl) ?_ | refine EqE.mk _ rfl ?_)
    | refine EqE.mk _ rfl ?_
    | refine Cd.mk (Nat.le_of_ble_eq_true rfl) ?_
    | refine Cd.mk ⟨rfl, rfl⟩ ?_
    | refine Cd.mk (by first | omega | (simp only [length_limbs, length_la]; omega)) ?_
    | refine Cd.mk ?_ ?_)
  rfl
theorem grd_ht {h k : Nat} {q : Dyadic} (hq : Ht h q) (e mode : Int) (h1 : -(k : Int) ≤ e) (h2 : e ≤ k) : Ht (2 * h + 64 + k + 1) (grd q e mode) := by
  unfold grd
  split
  · exact hq.mono (by omega)
  · refine Ht.dof (a := 2 * h + 64 + 1) (b := k) ?_ h1 h2 (by omega)
    have hz := zt_floor hq.parts.1 (e - dexp q).toNat
    show Zt _ (if upB _ _ _ _ = true then _ else _)
    split
    · exact (hz.mono (show 2 * h ≤ 2 * h + 64 by omega)).add (Zt.small (n := 1) (h := 64) (by decide) (by decide)) (by omega)
    · exact hz.mono (by omega)
set_option maxHeartbeats 4000000 in
theorem rgrid_sim {q : Dyadic} (e mode : Int) (hq : Ht 10000 q) (h1 : -20000 ≤ e) (h2 : e ≤ 25000) : Sim Tryd.prog G0 false 136 [dyD q, .int .i64 e, .int .i64 mode] (dyD (grd q e mode)) := by
  obtain ⟨hp1, hp2, hp3⟩ := hq.parts
  refine sim_mk tab_ok Tryd.func136 rfl (by kernel_rfl) rfl (Nat.le_of_ble_eq_true rfl) ?_
  by_cases h : e ≤ dexp q
  · rw [grd_ge h]
    repeat' ((conv => whnf); first
      | with_reducible refine Br.dec (fun _ => ?_) (fun h => absurd (by omega) h)
      | refine CallE.mk _ _ (rsign_sim (.of (n := dman q) (hp1.mono (by decide)))) ?_
      | refine CallE.mk _ _ (rdsign_sim (hq.mono (by decide))) ?_
      | refine Cd.mk (show regOk _ _ _ _ = true by kernel_rfl) ?_
      | refine Cd.mk rfl ?_
      | refine Br.t ?_
      | refine Br.f ?_
      | with_reducible refine Br.eqd ?_
      | with_reducible refine Br.eqb ?_
      | with_reducible refine Br.dec (fun _ => ?_) (fun _ => ?_)
      | with_reducible refine Br.ndec (fun _ => ?_) (fun _ => ?_)
      | refine Br.mk (fun _ => ?_) (fun _ => ?_)
      | refine NthE.mk _ rfl ?_
      | refine And.intro (fun _ => ?_) ?_
      | refine TkE.mk _ rfl rfl ?_
      | refine Res.mk ?_
      | refine DsE.mk [] rfl ?_
      | refine LoopEnd.go _ _ ⟨.inl rfl, rfl, rfl, by first | rfl | (repeat first | exact all_nil _ | refine all_la _ _ _ _ _ ?_)⟩ ?_
      | ((with_reducible refine EqE.idW ?_); first  | with_reducible refine EqE.mk _ (n_i64 _ (by omega)) ?_ | with_reducible refine EqE.mk _ (n_succ _ (by omega)) ?_ | refine EqE.mk _ (wrap_in (by omega) (by omega)) ?_ | refine EqE.mk _ rfl ?_)
      | ((with_reducible refine EqE.idM ?_); first  | refine EqE.mk _ rfl ?_)
      | ((with_reducible refine EqE.idI ?_); first  | refine EqE.mk _ (max_eq _ _) ?_ | refine EqE.mk _ (min_eq _ _) ?_)
      | ((with_reducible refine EqE.idS ?_); first  | refine EqE.mk _ rfl ?_)
      | ((with_reducible refine EqE.idL ?_); first  | refine EqE.mk _ (sl_own _ _ _ _ (by omega) (by omega) rfl) ?_ | refine EqE.mk _ rfl ?_)
      | refine EqE.mk _ rfl ?_
      | refine Cd.mk (Nat.le_of_ble_eq_true rfl) ?_
      | refine Cd.mk ⟨rfl, rfl⟩ ?_
      | refine Cd.mk (by first | omega | (simp only [length_limbs, length_la]; omega)) ?_
      | refine Cd.mk ?_ ?_)
    rfl
  by_cases h0 : dsg q = 0
  · obtain rfl := dsg_eq.1 h0
    rw [grd_zero]
    repeat' ((conv => whnf); first
      | with_reducible refine Br.dec (fun h => absurd h (by omega)) (fun _ => ?_)
      | with_reducible refine Br.dec (fun _ => ?_) (fun h => absurd (by omega) h)
      | refine CallE.mk _ _ (rdsign_sim (Ht.zero _)) ?_
      | refine Cd.mk (show regOk _ _ _ _ = true by kernel_rfl) ?_
      | refine Cd.mk rfl ?_
      | refine Br.t ?_
      | refine Br.f ?_
      | with_reducible refine Br.eqd ?_
      | with_reducible refine Br.eqb ?_
      | with_reducible refine Br.dec (fun _ => ?_) (fun _ => ?_)
      | with_reducible refine Br.ndec (fun _ => ?_) (fun _ => ?_)
      | refine Br.mk (fun _ => ?_) (fun _ => ?_)
      | refine NthE.mk _ rfl ?_
      | refine And.intro (fun _ => ?_) ?_
      | refine TkE.mk _ rfl rfl ?_
      | refine Res.mk ?_
      | refine DsE.mk [] rfl ?_
      | refine LoopEnd.go _ _ ⟨.inl rfl, rfl, rfl, by first | rfl | (repeat first | exact all_nil _ | refine all_la _ _ _ _ _ ?_)⟩ ?_
      | ((with_reducible refine EqE.idW ?_); first  | with_reducible refine EqE.mk _ (n_i64 _ (by omega)) ?_ | with_reducible refine EqE.mk _ (n_succ _ (by omega)) ?_ | refine EqE.mk _ (wrap_in (by omega) (by omega)) ?_ | refine EqE.mk _ rfl ?_)
      | ((with_reducible refine EqE.idM ?_); first  | refine EqE.mk _ rfl ?_)
      | ((with_reducible refine EqE.idI ?_); first  | refine EqE.mk _ (max_eq _ _) ?_ | refine EqE.mk _ (min_eq _ _) ?_)
      | ((with_reducible refine EqE.idS ?_); first  | refine EqE.mk _ rfl ?_)
      | ((with_reducible refine EqE.idL ?_); first  | refine EqE.mk _ (sl_own _ _ _ _ (by omega) (by omega) rfl) ?_ | refine EqE.mk _ rfl ?_)
      | refine EqE.mk _ rfl ?_
      | refine Cd.mk (Nat.le_of_ble_eq_true rfl) ?_
      | refine Cd.mk ⟨rfl, rfl⟩ ?_
      | refine Cd.mk (by first | omega | (simp only [length_limbs, length_la]; omega)) ?_
      | refine Cd.mk ?_ ?_)
    rfl
  have q0 : q ≠ 0 := fun e => h0 (dsg_eq.2 e)
  unfold grd
  rw [if_neg h]
  have hs : e - dexp q = (((e - dexp q).toNat : Nat) : Int) := by omega
  have hs2 : (e - dexp q).toNat ≤ 35000 := by omega
  obtain ⟨z1, z2, z3⟩ := ro_floor hp1 (show (e - dexp q).toNat ≤ 3100000 by omega) (by decide)
  have hodd := odd_rest (dman_odd q0) (show 0 < (e - dexp q).toNat by omega)
  generalize hS : (e - dexp q).toNat = S at *
  have z4 : Zt 20065 (dman q / 2 ^ S + 1) := (z1.mono (show 2 * 10000 ≤ 20064 by decide)).add (Zt.small (n := 1) (h := 64) (by decide) (by decide)) (by decide)
  have w1 : Zt 4200001 ((dman q - dman q / 2 ^ S * 2 ^ S) * 2 ^ Int.toNat 1) := z3.shl (by decide)
  have w2 : Zt 4200000 (1 * 2 ^ (S : Int).toNat) := (Zt.small (n := 1) (h := 64) (by decide) (by decide)).shl (by omega)
  have o1 : ZR (zD 1) 1 := (cz (by decide)).1
  have o2 : ∀ k, 64 ≤ k → Zt k 1 := fun k hk => Zt.small (by decide) hk
  have hx0 := u32_lt ((ofN (dman q / 2 ^ (S : Int).toNat).natAbs).getD (Int.toNat 0) 0)
  have hg1 : Ht 50000 (dof (dman q / 2 ^ (S : Int).toNat) e) := Ht.dof (a := 20000) (b := 25000) z1 (by omega) (by omega) (by decide)
  have hg2 : Ht 50000 (dof (dman q / 2 ^ (S : Int).toNat + 1) e) := Ht.dof (a := 20065) (b := 25000) z4 (by omega) (by omega) (by decide)
  repeat' ((conv => whnf); first
    | with_reducible refine Br.dec (fun h => absurd h (by omega)) (fun _ => ?_)
    | refine CallE.mk _ _ (rdsign_sim (hq.mono (by decide))) ?_
    | refine CallE.mk _ _ (rshrint_sim _ (.of (n := dman q) (hp1.mono (by decide))) (hp1.mono (by decide)) (by omega) (by omega)) ?_
    | refine CallE.mk _ _ (rofint_sim 1 (by decide) (by decide)) ?_
    | refine CallE.mk _ _ (raddint_sim (.of (z1.mono (by decide))) o1 (z1.mono (by decide)) (o2 _ (by decide))) ?_
    | refine CallE.mk _ _ (rshlint_sim S (.of (z1.mono (by decide))) (z1.mono (by decide)) (by omega)) ?_
    | refine CallE.mk _ _ (rsubint_sim (.of (n := dman q) (hp1.mono (by decide))) (.of (z2.mono (by decide))) (hp1.mono (by decide)) (z2.mono (by decide))) ?_
    | refine CallE.mk _ _ (rshlint_sim 1 (.of (z3.mono (by decide))) (z3.mono (by decide)) (by decide)) ?_
    | refine CallE.mk _ _ (rshlint_sim _ o1 (o2 _ (by decide)) (by omega)) ?_
    | refine CallE.mk _ _ (rcmpint_sim (.of (w1.mono (by decide))) (.of (w2.mono (by decide))) (w1.mono (by decide)) (w2.mono (by decide))) ?_
    | refine CallE.mk _ _ (rexact_sim (.of (z4.mono (by decide))) (z4.mono (by decide)) (tz_of_ht hg2 (by omega)) (by omega) (by omega)) ?_
    | refine CallE.mk _ _ (rexact_sim (.of (z1.mono (by decide))) (z1.mono (by decide)) (tz_of_ht hg1 (by omega)) (by omega) (by omega)) ?_
    | refine Cd.mk (show regOk _ _ _ _ = true by kernel_rfl) ?_
    | refine Cd.mk rfl ?_
    | refine Br.t ?_
    | refine Br.f ?_
    | with_reducible refine Br.dec (fun _ => ?_) (fun _ => ?_)
    | with_reducible refine Br.ndec (fun _ => ?_) (fun _ => ?_)
    | refine Br.mk (fun _ => ?_) (fun _ => ?_)
    | refine NthE.mk _ (limbs_dropN _ _ (by omega)) ?_
    | refine NthE.mk _ (limbs_drop _ _ (by omega)) ?_
    | refine NthE.mk _ (la_get _ _ _ (by first | exact own_ix _ | exact own_ixI _ | rfl) (by first | omega | (simp only [List.length_set]; omega))) ?_
    | refine NthE.mk _ rfl ?_
    | refine And.intro (fun _ => ?_) ?_
    | refine TkE.mk _ rfl rfl ?_
    | refine Res.mk ?_
    | refine DsE.mk (limbs _) rfl ?_
    | refine DsE.mk [] rfl ?_
    | refine LoopEnd.go _ _ ⟨.inl rfl, rfl, rfl, by first | rfl | (repeat first | exact all_nil _ | refine all_la _ _ _ _ _ ?_)⟩ ?_
    | ((with_reducible refine EqE.idW ?_); first | refine EqE.mk ((S : Nat) : Int) (by rw [wrap_in (by omega) (by omega)]; exact hs) ?_ | with_reducible refine EqE.mk _ (wrap_u64_u32 _) ?_ | with_reducible refine EqE.mk _ (n_add _ _ (by omega)) ?_ | with_reducible refine EqE.mk _ (n_shl32 _ (by omega)) ?_ | with_reducible refine EqE.mk _ (n_shl _ _ (by omega) (by omega)) ?_ | with_reducible refine EqE.mk _ (n_mul _ _ (by omega)) ?_ | with_reducible refine EqE.mk _ (n_sub _ _ (by omega) (by omega)) ?_ | with_reducible refine EqE.mk _ (n_and1 _ (by omega)) ?_ | with_reducible refine EqE.mk _ (n_andm _ (by omega)) ?_ | with_reducible refine EqE.mk _ (n_and1_32 _ (by omega)) ?_ | with_reducible refine EqE.mk _ (n_and _ _ (by omega) (by omega)) ?_ | with_reducible refine EqE.mk _ (n_or _ _ (by omega) (by omega)) ?_ | refine EqE.mk _ (n_quo _ 32 (by omega)) ?_ | with_reducible refine EqE.mk _ (n_u32 _) ?_ | with_reducible refine EqE.mk _ (n_u8 _) ?_ | with_reducible refine EqE.mk _ (n_u64 _ (by omega)) ?_ | with_reducible refine EqE.mk _ (n_i64 _ (by omega)) ?_ | with_reducible refine EqE.mk _ (n_succ _ (by omega)) ?_ | with_reducible refine EqE.mk _ (n_iadd _ _ (by omega)) ?_ | with_reducible refine EqE.mk _ (wrap_u64 (by omega) (by omega)) ?_ | with_reducible refine EqE.mk _ (wrap_u32 _) ?_ | with_reducible refine EqE.mk _ (wrap_in (by omega) (by omega)) ?_ | refine EqE.mk _ rfl ?_)
    | ((with_reducible refine EqE.idF ?_); first  | with_reducible refine EqE.mk _ (n_shr63 _) ?_ | with_reducible refine EqE.mk _ (n_shrv _ _ (by omega)) ?_ | with_reducible refine EqE.mk _ (n_shrv32 _ _ (by omega)) ?_ | with_reducible refine EqE.mk _ (n_shr1_32 _) ?_ | refine EqE.mk _ (n_shr _ 4294967296 _ _ rfl) ?_ | refine EqE.mk _ (n_shr _ 65536 _ _ rfl) ?_ | refine EqE.mk _ (n_shr _ 256 _ _ rfl) ?_ | refine EqE.mk _ (n_shr _ 134217728 _ _ rfl) ?_ | refine EqE.mk _ (n_shr _ 2 _ _ rfl) ?_ | refine EqE.mk _ (n_shr _ 16 _ _ rfl) ?_ | refine EqE.mk _ rfl ?_)
    | ((with_reducible refine EqE.idM ?_); first  | refine EqE.mk _ (n_rem _ 32) ?_ | refine EqE.mk _ (n_rem _ _) ?_ | refine EqE.mk _ rfl ?_)
    | ((with_reducible refine EqE.idI ?_); first  | refine EqE.mk _ (max0 _) ?_ | with_reducible refine EqE.mk _ (max_nat _ _) ?_ | refine EqE.mk _ (max_eq _ _) ?_ | refine EqE.mk _ (min_eq _ _) ?_)
    | ((with_reducible refine EqE.idS ?_); first  | refine EqE.mk _ (la_setN _ _ _ _ (by first | exact own_ix _ | exact own_ixI _ | rfl) (by first | omega | (simp only [List.length_set]; omega)) (by omega)) ?_ | refine EqE.mk _ (la_set _ _ _ _ (by first | exact own_ix _ | exact own_ixI _ | rfl) (by omega) (by omega) (by omega)) ?_ | refine EqE.mk _ rfl ?_)
    | ((with_reducible refine EqE.idA ?_); first | refine EqE.mk _ (la_app0 _) ?_ | refine EqE.mk _ (la_app _ _) ?_ | refine EqE.mk _ rfl ?_)
    | ((with_reducible refine EqE.idR ?_); first | refine EqE.mk _ (la_rep _) ?_ | refine EqE.mk _ rfl ?_)
    | ((with_reducible refine EqE.idL ?_); first  | refine EqE.mk _ (sl_own _ _ _ _ (by omega) (by omega) rfl) ?_ | refine EqE.mk _ (sl_sliceN _ _ (by omega)) ?_ | refine EqE.mk _ (sl_slice _ _ _ (by omega) (by omega) (by omega)) ?_ | refine EqE.mk _ rfl ?_)
    | refine EqE.mk _ rfl ?_
    | refine Cd.mk (Nat.le_of_ble_eq_true rfl) ?_
    | refine Cd.mk ⟨rfl, rfl⟩ ?_
    | refine Cd.mk (limbs_one _) ?_
    | refine Cd.mk (by (try dsimp only); (try simp only [length_limbs, length_la, Nat.mul_one, List.length_set, List.length_take, List.length_drop, List.length_replicate]); (try omega); done) ?_
    | refine Cd.mk ?_ ?_)
  all_goals
    show dyD (dof (if upB (dman q / 2 ^ S) (dman q - dman q / 2 ^ S * 2 ^ S) S mode = true then dman q / 2 ^ S + 1 else dman q / 2 ^ S) e) = dyD _
  · rename_i h3
    rw [if_neg (by unfold upB; rw [if_pos h3]; decide)]; rfl
  · rename_i h3 h4
    rw [if_pos (by unfold upB; rw [if_neg h3, if_pos h4, Int.sign_eq_one_of_pos hodd]; rfl)]; rfl
  all_goals
    have hX : (dman q - dman q / 2 ^ S * 2 ^ S) * 2 - 2 ^ S = (dman q - dman q / 2 ^ (S : Int).toNat * 2 ^ (S : Int).toNat) * 2 ^ Int.toNat 1 - 1 * 2 ^ (S : Int).toNat := by
      rw [Int.toNat_natCast, Int.one_mul]; rfl
    have hpar : (dman q / 2 ^ S) % 2 = 1 ↔ ((ofN (dman q / 2 ^ S).natAbs).getD 0 0).toNat % 2 = 1 := by
      have h := zv_odd (zneg (dman q / 2 ^ S)) (ofN (dman q / 2 ^ S).natAbs)
      rwa [zv_self] at h
  · rename_i h3 h4 h5
    rw [if_pos (by unfold upB; rw [if_neg h3, if_neg h4, hX, decide_eq_true h5]; rfl)]; rfl
  · rename_i h3 h4 h5 h6 h7 h8
    have h8 : (((ofN (dman q / 2 ^ S).natAbs).getD 0 0).toNat % 2 : Nat) = 1 := by exact_mod_cast h8
    rw [if_pos (by unfold upB; rw [if_neg h3, if_neg h4, hX, decide_eq_false h5, decide_eq_true h6, decide_eq_true (hpar.2 h8)]; rfl)]; rfl
  · rename_i h3 h4 h5 h6 h7 h8
    have h8 : ¬ (((ofN (dman q / 2 ^ S).natAbs).getD 0 0).toNat % 2 : Nat) = 1 := fun e => h8 (by exact_mod_cast e)
    rw [if_neg (by unfold upB; rw [if_neg h3, if_neg h4, hX, decide_eq_false h5, decide_eq_false (fun e => h8 (hpar.1 e)), Bool.and_false]; decide)]; rfl
  · rename_i h3 h4 h5 h6 h7
    have h7 : ¬ (((ofN (dman q / 2 ^ S).natAbs).length : Nat) : Int) > 0 := h7
    have h8 : ¬ ((ofN (dman q / 2 ^ S).natAbs).getD 0 0).toNat % 2 = 1 := by rw [getD_big (by omega)]; decide
    rw [if_neg (by unfold upB; rw [if_neg h3, if_neg h4, hX, decide_eq_false h5, decide_eq_false (fun e => h8 (hpar.1 e)), Bool.and_false]; decide)]; rfl
  · rename_i h3 h4 h5 h6
    rw [if_neg (by unfold upB; rw [if_neg h3, if_neg h4, hX, decide_eq_false h5, decide_eq_false h6]; simp)]; rfl
theorem rGrid_sim {q : Dyadic} (e mode : Int) (hq : Ht 10000 q) : Sim Tryd.prog G0 false 77 [dyD q, .int .i64 e, .int .i64 mode] (dyD (grd q (min (max e (-20000)) 20000) mode)) := by
  have e3 : max (-20000) (min e 20000) = min (max e (-20000)) 20000 := by omega
  refine sim_mk tab_ok Tryd.func77 rfl (by kernel_rfl) rfl (Nat.le_of_ble_eq_true rfl) ?_
  repeat' ((conv => whnf); first
    | refine CallE.mk _ _ (rgrid_sim _ _ hq (by omega) (by omega)) ?_
    | refine Cd.mk (show regOk _ _ _ _ = true by kernel_rfl) ?_
    | refine Cd.mk rfl ?_
    | refine Br.t ?_
    | refine Br.f ?_
    | with_reducible refine Br.eqd ?_
    | with_reducible refine Br.eqb ?_
    | with_reducible refine Br.dec (fun _ => ?_) (fun _ => ?_)
    | with_reducible refine Br.ndec (fun _ => ?_) (fun _ => ?_)
    | refine Br.mk (fun _ => ?_) (fun _ => ?_)
    | refine NthE.mk _ rfl ?_
    | refine And.intro (fun _ => ?_) ?_
    | refine TkE.mk _ rfl rfl ?_
    | refine Res.mk ?_
    | refine DsE.mk [] rfl ?_
    | refine LoopEnd.go _ _ ⟨.inl rfl, rfl, rfl, by first | rfl | (repeat first | exact all_nil _ | refine all_la _ _ _ _ _ ?_)⟩ ?_
    | ((with_reducible refine EqE.idW ?_); first  | with_reducible refine EqE.mk _ (n_i64 _ (by omega)) ?_ | with_reducible refine EqE.mk _ (n_succ _ (by omega)) ?_ | refine EqE.mk _ (wrap_in (by omega) (by omega)) ?_ | refine EqE.mk _ rfl ?_)
    | ((with_reducible refine EqE.idM ?_); first  | refine EqE.mk _ rfl ?_)
    | ((with_reducible refine EqE.idI ?_); first  | refine EqE.mk _ (max_eq _ _) ?_ | refine EqE.mk _ (min_eq _ _) ?_)
    | ((with_reducible refine EqE.idS ?_); first  | refine EqE.mk _ rfl ?_)
    | ((with_reducible refine EqE.idL ?_); first  | refine EqE.mk _ (sl_own _ _ _ _ (by omega) (by omega) rfl) ?_ | refine EqE.mk _ rfl ?_)
    | refine EqE.mk _ rfl ?_
    | refine Cd.mk (Nat.le_of_ble_eq_true rfl) ?_
    | refine Cd.mk ⟨rfl, rfl⟩ ?_
    | refine Cd.mk (by first | omega | (simp only [length_limbs, length_la]; omega)) ?_
    | refine Cd.mk ?_ ?_)
  show dyD _ = dyD (grd q (max (-20000) (min e 20000)) mode)
  rw [e3]
theorem rTo_sim {q : Dyadic} (p mode : Int) (hq : Ht 5000 q) : Sim Tryd.prog G0 false 75 [dyD q, .int .i64 p, .int .i64 mode] (dyD (rto q p mode)) := by
  have ht := dtop_bounds hq
  have e3 : max 1 (min p 4000) = min (max p 1) 4000 := by omega
  refine sim_mk tab_ok Tryd.func75 rfl (by kernel_rfl) rfl (Nat.le_of_ble_eq_true rfl) ?_
  repeat' ((conv => whnf); first
    | refine CallE.mk _ _ (rdsign_sim (hq.mono (by decide))) ?_
    | refine CallE.mk _ _ (rdtop_sim (hq.mono (by decide))) ?_
    | refine CallE.mk _ _ (rgrid_sim _ _ (hq.mono (by decide)) (by omega) (by omega)) ?_
    | refine Cd.mk (show regOk _ _ _ _ = true by kernel_rfl) ?_
    | refine Cd.mk rfl ?_
    | refine Br.t ?_
    | refine Br.f ?_
    | with_reducible refine Br.eqd ?_
    | with_reducible refine Br.eqb ?_
    | with_reducible refine Br.dec (fun _ => ?_) (fun _ => ?_)
    | with_reducible refine Br.ndec (fun _ => ?_) (fun _ => ?_)
    | refine Br.mk (fun _ => ?_) (fun _ => ?_)
    | refine NthE.mk _ rfl ?_
    | refine And.intro (fun _ => ?_) ?_
    | refine TkE.mk _ rfl rfl ?_
    | refine Res.mk ?_
    | refine DsE.mk [] rfl ?_
    | refine LoopEnd.go _ _ ⟨.inl rfl, rfl, rfl, by first | rfl | (repeat first | exact all_nil _ | refine all_la _ _ _ _ _ ?_)⟩ ?_
    | ((with_reducible refine EqE.idW ?_); first  | with_reducible refine EqE.mk _ (n_i64 _ (by omega)) ?_ | with_reducible refine EqE.mk _ (n_succ _ (by omega)) ?_ | refine EqE.mk _ (wrap_in (by omega) (by omega)) ?_ | refine EqE.mk _ rfl ?_)
    | ((with_reducible refine EqE.idM ?_); first  | refine EqE.mk _ rfl ?_)
    | ((with_reducible refine EqE.idI ?_); first  | refine EqE.mk _ (max_eq _ _) ?_ | refine EqE.mk _ (min_eq _ _) ?_)
    | ((with_reducible refine EqE.idS ?_); first  | refine EqE.mk _ rfl ?_)
    | ((with_reducible refine EqE.idL ?_); first  | refine EqE.mk _ (sl_own _ _ _ _ (by omega) (by omega) rfl) ?_ | refine EqE.mk _ rfl ?_)
    | refine EqE.mk _ rfl ?_
    | refine Cd.mk (Nat.le_of_ble_eq_true rfl) ?_
    | refine Cd.mk ⟨rfl, rfl⟩ ?_
    | refine Cd.mk (by first | omega | (simp only [length_limbs, length_la]; omega)) ?_
    | refine Cd.mk ?_ ?_)
  · rename_i h
    obtain rfl := dsg_eq.1 h
    rfl
  · rename_i h
    show dyD _ = dyD (grd q (dtop q - max 1 (min p 4000) + 1) mode)
    rw [e3]; unfold rto unitE; rw [if_neg (fun e => h (dsg_eq.2 e))]
theorem rUlp_sim {q : Dyadic} (p : Int) (hq : Ht 5000 q) : Sim Tryd.prog G0 false 79 [dyD q, .int .i64 p] (dyD (ulpD q p)) := by
  have ht := dtop_bounds hq
  have e3 : max 1 (min p 4000) = min (max p 1) 4000 := by omega
  have h1 : ∀ m : Int, (1 : Int) ≠ 0 → tzn (Int.natAbs 1) ≤ 100000 := fun _ _ => by rw [show Int.natAbs 1 = 1 from rfl, tzn_odd (by decide)]; decide
  refine sim_mk tab_ok Tryd.func79 rfl (by kernel_rfl) rfl (Nat.le_of_ble_eq_true rfl) ?_
  repeat' ((conv => whnf); first
    | refine CallE.mk _ _ (rdsign_sim (hq.mono (by decide))) ?_
    | refine CallE.mk _ _ (rdtop_sim (hq.mono (by decide))) ?_
    | refine CallE.mk _ _ (rofint_sim 1 (by decide) (by decide)) ?_
    | refine CallE.mk _ _ (rexact_sim (cz (n := 1) (by decide)).1 (zt_small 1 _ (by decide) (by decide)) (h1 0) (by omega) (by omega)) ?_
    | refine Cd.mk (show regOk _ _ _ _ = true by kernel_rfl) ?_
    | refine Cd.mk rfl ?_
    | refine Br.t ?_
    | refine Br.f ?_
    | with_reducible refine Br.eqd ?_
    | with_reducible refine Br.eqb ?_
    | with_reducible refine Br.dec (fun _ => ?_) (fun _ => ?_)
    | with_reducible refine Br.ndec (fun _ => ?_) (fun _ => ?_)
    | refine Br.mk (fun _ => ?_) (fun _ => ?_)
    | refine NthE.mk _ rfl ?_
    | refine And.intro (fun _ => ?_) ?_
    | refine TkE.mk _ rfl rfl ?_
    | refine Res.mk ?_
    | refine DsE.mk [] rfl ?_
    | refine LoopEnd.go _ _ ⟨.inl rfl, rfl, rfl, by first | rfl | (repeat first | exact all_nil _ | refine all_la _ _ _ _ _ ?_)⟩ ?_
    | ((with_reducible refine EqE.idW ?_); first  | with_reducible refine EqE.mk _ (n_i64 _ (by omega)) ?_ | with_reducible refine EqE.mk _ (n_succ _ (by omega)) ?_ | refine EqE.mk _ (wrap_in (by omega) (by omega)) ?_ | refine EqE.mk _ rfl ?_)
    | ((with_reducible refine EqE.idM ?_); first  | refine EqE.mk _ rfl ?_)
    | ((with_reducible refine EqE.idI ?_); first  | refine EqE.mk _ (max_eq _ _) ?_ | refine EqE.mk _ (min_eq _ _) ?_)
    | ((with_reducible refine EqE.idS ?_); first  | refine EqE.mk _ rfl ?_)
    | ((with_reducible refine EqE.idL ?_); first  | refine EqE.mk _ (sl_own _ _ _ _ (by omega) (by omega) rfl) ?_ | refine EqE.mk _ rfl ?_)
    | refine EqE.mk _ rfl ?_
    | refine Cd.mk (Nat.le_of_ble_eq_true rfl) ?_
    | refine Cd.mk ⟨rfl, rfl⟩ ?_
    | refine Cd.mk (by first | omega | (simp only [length_limbs, length_la]; omega)) ?_
    | refine Cd.mk ?_ ?_)
  · rename_i h
    obtain rfl := dsg_eq.1 h
    rfl
  · rename_i h
    show dyD _ = dyD (dof 1 (dtop q - max 1 (min p 4000) + 1))
    rw [e3]; unfold ulpD unitE; rw [if_neg (fun e => h (dsg_eq.2 e))]
end Go.Ev.Ar
