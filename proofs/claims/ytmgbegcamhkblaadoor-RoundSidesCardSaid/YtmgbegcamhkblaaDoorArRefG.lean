/- Contracts of the given functions, on data. Conditions stand in each theorem. -/
import Derived.Test.YtmgbegcamhkblaaDoorArRefE
set_option linter.unusedSimpArgs false
set_option linter.unusedVariables false
namespace Go.Ev.Ar
open Go Go.Ev Go.Proofs

set_option maxHeartbeats 2000000 in
theorem rdiv_sim (a b : List UInt32) (ha : a.length < 2^26) (hb : b.length < 2^26) (hb0 : nv b ≠ 0) : Sim Tryd.prog G0 false 200 [sl a, sl b] (.tup [sl (ofN (nv a / nv b)), sl (ofN (nv a % nv b)), .bool true]) := by
  refine sim_mk tab_ok Tryd.func200 rfl (by kernel_rfl) rfl (Nat.le_of_ble_eq_true rfl) ?_
  have h1 := ofN_len_nv a
  have h2 := ofN_len_nv b
  have h3 := nv_lt (ofN (nv a))
  rw [nv_ofN, Pw_two] at h3
  have hnb := nb_le.2 h3
  have hnb2 : nb (nv (ofN (nv a))) ≤ 32 * (ofN (nv a)).length := by rw [nv_ofN]; exact hnb
  repeat' ((conv => whnf); first
    | refine CallE.mk _ _ (rtrim_sim _ (by omega)) ?_
    | refine CallE.mk _ _ (rbits_sim _ (by omega)) ?_
    | refine Cd.mk (show regOk _ _ _ _ = true by kernel_rfl) ?_
    | refine Cd.mk rfl ?_
    | refine Br.t ?_
    | refine Br.f ?_
    | with_reducible refine Br.dec (fun _ => ?_) (fun _ => ?_)
    | with_reducible refine Br.ndec (fun _ => ?_) (fun _ => ?_)
    | refine Br.mk (fun _ => ?_) (fun _ => ?_)
    | refine NthE.mk _ (limbs_dropN _ _ (by omega)) ?_
    | refine NthE.mk _ (limbs_drop _ _ (by omega)) ?_
    | refine NthE.mk _ (la_get _ _ _ (by first | exact own_ix _ | exact own_ixI _ | rfl) (by first | omega | (simp only [List.length_set]; omega))) ?_
    | refine NthE.mk _ rfl ?_
    | refine And.intro (fun _ => ?_) ?_
    | refine TkE.mk _ rfl rfl ?_
    | refine Res.mk ?_
    | refine DsE.mk (limbs _) rfl ?_
    | refine DsE.mk [] rfl ?_
    | refine LoopEnd.go _ _ ⟨.inl rfl, rfl, rfl, by first | rfl | (repeat first | exact all_nil _ | refine all_la _ _ _ _ _ ?_)⟩ ?_
    | ((with_reducible refine EqE.idW ?_); first  | with_reducible refine EqE.mk _ (wrap_u64_u32 _) ?_ | with_reducible refine EqE.mk _ (n_add _ _ (by omega)) ?_ | with_reducible refine EqE.mk _ (n_shl32 _ (by omega)) ?_ | with_reducible refine EqE.mk _ (n_shl _ _ (by omega) (by omega)) ?_ | with_reducible refine EqE.mk _ (n_mul _ _ (by omega)) ?_ | with_reducible refine EqE.mk _ (n_sub _ _ (by omega) (by omega)) ?_ | with_reducible refine EqE.mk _ (n_and1 _ (by omega)) ?_ | with_reducible refine EqE.mk _ (n_andm _ (by omega)) ?_ | with_reducible refine EqE.mk _ (n_and1_32 _ (by omega)) ?_ | with_reducible refine EqE.mk _ (n_and _ _ (by omega) (by omega)) ?_ | with_reducible refine EqE.mk _ (n_or _ _ (by omega) (by omega)) ?_ | refine EqE.mk _ (n_quo _ 32 (by omega)) ?_ | with_reducible refine EqE.mk _ (n_u32 _) ?_ | with_reducible refine EqE.mk _ (n_u8 _) ?_ | with_reducible refine EqE.mk _ (n_u64 _ (by omega)) ?_ | with_reducible refine EqE.mk _ (n_i64 _ (by omega)) ?_ | with_reducible refine EqE.mk _ (n_succ _ (by omega)) ?_ | with_reducible refine EqE.mk _ (n_iadd _ _ (by omega)) ?_ | with_reducible refine EqE.mk _ (wrap_u64 (by omega) (by omega)) ?_ | with_reducible refine EqE.mk _ (wrap_u32 _) ?_ | with_reducible refine EqE.mk _ (wrap_in (by omega) (by omega)) ?_ | refine EqE.mk _ rfl ?_)
    | ((with_reducible refine EqE.idF ?_); first  | with_reducible refine EqE.mk _ (n_shr63 _) ?_ | with_reducible refine EqE.mk _ (n_shrv _ _ (by omega)) ?_ | with_reducible refine EqE.mk _ (n_shrv32 _ _ (by omega)) ?_ | with_reducible refine EqE.mk _ (n_shr1_32 _) ?_ | refine EqE.mk _ (n_shr _ 4294967296 _ _ rfl) ?_ | refine EqE.mk _ (n_shr _ 65536 _ _ rfl) ?_ | refine EqE.mk _ (n_shr _ 256 _ _ rfl) ?_ | refine EqE.mk _ (n_shr _ 134217728 _ _ rfl) ?_ | refine EqE.mk _ (n_shr _ 2 _ _ rfl) ?_ | refine EqE.mk _ (n_shr _ 16 _ _ rfl) ?_ | refine EqE.mk _ rfl ?_)
    | ((with_reducible refine EqE.idM ?_); first  | refine EqE.mk _ (n_rem _ 32) ?_ | refine EqE.mk _ (n_rem _ _) ?_ | refine EqE.mk _ rfl ?_)
    | ((with_reducible refine EqE.idI ?_); first  | refine EqE.mk _ (max0 _) ?_ | with_reducible refine EqE.mk _ (max_nat _ _) ?_ | refine EqE.mk _ (max_eq _ _) ?_ | refine EqE.mk _ (min_eq _ _) ?_)
    | ((with_reducible refine EqE.idS ?_); first  | refine EqE.mk _ (la_setN _ _ _ _ (by first | exact own_ix _ | exact own_ixI _ | rfl) (by first | omega | (simp only [List.length_set]; omega)) (by omega)) ?_ | refine EqE.mk _ (la_set _ _ _ _ (by first | exact own_ix _ | exact own_ixI _ | rfl) (by omega) (by omega) (by omega)) ?_ | refine EqE.mk _ rfl ?_)
    | ((with_reducible refine EqE.idA ?_); first | refine EqE.mk _ (la_app0 _) ?_ | refine EqE.mk _ (la_app _ _) ?_ | refine EqE.mk _ rfl ?_)
    | ((with_reducible refine EqE.idR ?_); first | refine EqE.mk _ (la_rep _) ?_ | refine EqE.mk _ rfl ?_)
    | ((with_reducible refine EqE.idL ?_); first  | refine EqE.mk _ (sl_own _ _ _ _ (by omega) (by omega) rfl) ?_ | refine EqE.mk _ (sl_sliceN _ _ (by omega)) ?_ | refine EqE.mk _ (sl_slice _ _ _ (by omega) (by omega) (by omega)) ?_ | refine EqE.mk _ rfl ?_)
    | refine EqE.mk _ rfl ?_
    | refine Cd.mk (Nat.le_of_ble_eq_true rfl) ?_
    | refine Cd.mk ⟨rfl, rfl⟩ ?_
    | refine Cd.mk (limbs_one _) ?_
    | refine Cd.mk (by (try dsimp only); (try simp only [length_limbs, length_la, Nat.mul_one, List.length_set, List.length_take, List.length_drop, List.length_replicate]); (try omega); done) ?_
    | refine Cd.mk ?_ ?_)
  · rename_i h
    exact absurd (ofN_len_zero.1 (show (ofN (nv b)).length = 0 by omega)) hb0
  rename_i h4
  rw [nv_ofN]
  repeat' ((conv => whnf); first
    | refine Cd.mk (show regOk _ _ _ _ = true by kernel_rfl) ?_
    | refine Cd.mk rfl ?_
    | refine Br.t ?_
    | refine Br.f ?_
    | with_reducible refine Br.dec (fun _ => ?_) (fun _ => ?_)
    | with_reducible refine Br.ndec (fun _ => ?_) (fun _ => ?_)
    | refine Br.mk (fun _ => ?_) (fun _ => ?_)
    | refine NthE.mk _ (limbs_dropN _ _ (by omega)) ?_
    | refine NthE.mk _ (limbs_drop _ _ (by omega)) ?_
    | refine NthE.mk _ (la_get _ _ _ (by first | exact own_ix _ | exact own_ixI _ | rfl) (by first | omega | (simp only [List.length_set]; omega))) ?_
    | refine NthE.mk _ rfl ?_
    | refine And.intro (fun _ => ?_) ?_
    | refine TkE.mk _ rfl rfl ?_
    | refine Res.mk ?_
    | refine DsE.mk (limbs _) rfl ?_
    | refine DsE.mk [] rfl ?_
    | refine LoopEnd.go _ _ ⟨.inl rfl, rfl, rfl, by first | rfl | (repeat first | exact all_nil _ | refine all_la _ _ _ _ _ ?_)⟩ ?_
    | ((with_reducible refine EqE.idW ?_); first  | with_reducible refine EqE.mk _ (wrap_u64_u32 _) ?_ | with_reducible refine EqE.mk _ (n_add _ _ (by omega)) ?_ | with_reducible refine EqE.mk _ (n_shl32 _ (by omega)) ?_ | with_reducible refine EqE.mk _ (n_shl _ _ (by omega) (by omega)) ?_ | with_reducible refine EqE.mk _ (n_mul _ _ (by omega)) ?_ | with_reducible refine EqE.mk _ (n_sub _ _ (by omega) (by omega)) ?_ | with_reducible refine EqE.mk _ (n_and1 _ (by omega)) ?_ | with_reducible refine EqE.mk _ (n_andm _ (by omega)) ?_ | with_reducible refine EqE.mk _ (n_and1_32 _ (by omega)) ?_ | with_reducible refine EqE.mk _ (n_and _ _ (by omega) (by omega)) ?_ | with_reducible refine EqE.mk _ (n_or _ _ (by omega) (by omega)) ?_ | refine EqE.mk _ (n_quo _ 32 (by omega)) ?_ | with_reducible refine EqE.mk _ (n_u32 _) ?_ | with_reducible refine EqE.mk _ (n_u8 _) ?_ | with_reducible refine EqE.mk _ (n_u64 _ (by omega)) ?_ | with_reducible refine EqE.mk _ (n_i64 _ (by omega)) ?_ | with_reducible refine EqE.mk _ (n_succ _ (by omega)) ?_ | with_reducible refine EqE.mk _ (n_iadd _ _ (by omega)) ?_ | with_reducible refine EqE.mk _ (wrap_u64 (by omega) (by omega)) ?_ | with_reducible refine EqE.mk _ (wrap_u32 _) ?_ | with_reducible refine EqE.mk _ (wrap_in (by omega) (by omega)) ?_ | refine EqE.mk _ rfl ?_)
    | ((with_reducible refine EqE.idF ?_); first  | with_reducible refine EqE.mk _ (n_shr63 _) ?_ | with_reducible refine EqE.mk _ (n_shrv _ _ (by omega)) ?_ | with_reducible refine EqE.mk _ (n_shrv32 _ _ (by omega)) ?_ | with_reducible refine EqE.mk _ (n_shr1_32 _) ?_ | refine EqE.mk _ (n_shr _ 4294967296 _ _ rfl) ?_ | refine EqE.mk _ (n_shr _ 65536 _ _ rfl) ?_ | refine EqE.mk _ (n_shr _ 256 _ _ rfl) ?_ | refine EqE.mk _ (n_shr _ 134217728 _ _ rfl) ?_ | refine EqE.mk _ (n_shr _ 2 _ _ rfl) ?_ | refine EqE.mk _ (n_shr _ 16 _ _ rfl) ?_ | refine EqE.mk _ rfl ?_)
    | ((with_reducible refine EqE.idM ?_); first  | refine EqE.mk _ (n_rem _ 32) ?_ | refine EqE.mk _ (n_rem _ _) ?_ | refine EqE.mk _ rfl ?_)
    | ((with_reducible refine EqE.idI ?_); first  | refine EqE.mk _ (max0 _) ?_ | with_reducible refine EqE.mk _ (max_nat _ _) ?_ | refine EqE.mk _ (max_eq _ _) ?_ | refine EqE.mk _ (min_eq _ _) ?_)
    | ((with_reducible refine EqE.idS ?_); first  | refine EqE.mk _ (la_setN _ _ _ _ (by first | exact own_ix _ | exact own_ixI _ | rfl) (by first | omega | (simp only [List.length_set]; omega)) (by omega)) ?_ | refine EqE.mk _ (la_set _ _ _ _ (by first | exact own_ix _ | exact own_ixI _ | rfl) (by omega) (by omega) (by omega)) ?_ | refine EqE.mk _ rfl ?_)
    | ((with_reducible refine EqE.idA ?_); first | refine EqE.mk _ (la_app0 _) ?_ | refine EqE.mk _ (la_app _ _) ?_ | refine EqE.mk _ rfl ?_)
    | ((with_reducible refine EqE.idR ?_); first | refine EqE.mk _ (la_rep _) ?_ | refine EqE.mk _ rfl ?_)
    | ((with_reducible refine EqE.idL ?_); first  | refine EqE.mk _ (sl_own _ _ _ _ (by omega) (by omega) rfl) ?_ | refine EqE.mk _ (sl_sliceN _ _ (by omega)) ?_ | refine EqE.mk _ (sl_slice _ _ _ (by omega) (by omega) (by omega)) ?_ | refine EqE.mk _ rfl ?_)
    | refine EqE.mk _ rfl ?_
    | refine Cd.mk (Nat.le_of_ble_eq_true rfl) ?_
    | refine Cd.mk ⟨rfl, rfl⟩ ?_
    | refine Cd.mk (limbs_one _) ?_
    | refine Cd.mk (by (try dsimp only); (try simp only [length_limbs, length_la, Nat.mul_one, List.length_set, List.length_take, List.length_drop, List.length_replicate]); (try omega); done) ?_
    | refine Cd.mk ?_ ?_)
  refine ⟨[], [7, 8, 9, 10, 11], [21], fun m xs h => ∃ (i : Int) (n : Nat) (r q : List UInt32), i = m - 1 ∧ n = (ofN (nv a)).length ∧ m ≤ nb (nv a) ∧ r = ofN (nv a / 2 ^ m % nv b) ∧ nv q = nv a / 2 ^ m / nv b * 2 ^ m ∧ q.length = n ∧
      xs = [.d (sl (ofN (nv a))), .d (sl (ofN (nv b))), .own 21 0 n 1, .d (sl r), .d (.int .i64 i)] ∧ h = [(21, false, la q)],
    ⟨_, _, _, ⟨.inr rfl, rfl, rfl, by first | rfl | (repeat first | exact all_nil _ | refine all_la _ _ _ _ _ ?_)⟩, _, _, [], _, rfl, rfl, Nat.le_refl _, ?_, ?_, List.length_replicate, rfl, rfl⟩, ?_⟩
  · rw [Nat.div_eq_of_lt (nb_lt _), Nat.zero_mod, ofN_zero]
  · rw [Nat.div_eq_of_lt (nb_lt _), Nat.zero_div, Nat.zero_mul, nv_replicate]
  rintro m xs h ⟨i, n, r, q, hi, hn, hm, hr, hq, hql, rfl, rfl⟩
  rcases m with _ | k
  · repeat' ((conv => whnf); first
      | refine CallE.mk _ _ (rtrim_sim _ (by omega)) ?_
      | refine Cd.mk (show regOk _ _ _ _ = true by kernel_rfl) ?_
      | refine Cd.mk rfl ?_
      | refine Br.t ?_
      | refine Br.f ?_
      | with_reducible refine Br.dec (fun _ => ?_) (fun _ => ?_)
      | with_reducible refine Br.ndec (fun _ => ?_) (fun _ => ?_)
      | refine Br.mk (fun _ => ?_) (fun _ => ?_)
      | refine NthE.mk _ (limbs_dropN _ _ (by omega)) ?_
      | refine NthE.mk _ (limbs_drop _ _ (by omega)) ?_
      | refine NthE.mk _ (la_get _ _ _ (by first | exact own_ix _ | exact own_ixI _ | rfl) (by first | omega | (simp only [List.length_set]; omega))) ?_
      | refine NthE.mk _ rfl ?_
      | refine And.intro (fun _ => ?_) ?_
      | refine TkE.mk _ rfl rfl ?_
      | refine Res.mk ?_
      | refine DsE.mk (limbs _) rfl ?_
      | refine DsE.mk [] rfl ?_
      | refine LoopEnd.go _ _ ⟨.inl rfl, rfl, rfl, by first | rfl | (repeat first | exact all_nil _ | refine all_la _ _ _ _ _ ?_)⟩ ?_
      | ((with_reducible refine EqE.idW ?_); first  | with_reducible refine EqE.mk _ (wrap_u64_u32 _) ?_ | with_reducible refine EqE.mk _ (n_add _ _ (by omega)) ?_ | with_reducible refine EqE.mk _ (n_shl32 _ (by omega)) ?_ | with_reducible refine EqE.mk _ (n_shl _ _ (by omega) (by omega)) ?_ | with_reducible refine EqE.mk _ (n_mul _ _ (by omega)) ?_ | with_reducible refine EqE.mk _ (n_sub _ _ (by omega) (by omega)) ?_ | with_reducible refine EqE.mk _ (n_and1 _ (by omega)) ?_ | with_reducible refine EqE.mk _ (n_andm _ (by omega)) ?_ | with_reducible refine EqE.mk _ (n_and1_32 _ (by omega)) ?_ | with_reducible refine EqE.mk _ (n_and _ _ (by omega) (by omega)) ?_ | with_reducible refine EqE.mk _ (n_or _ _ (by omega) (by omega)) ?_ | refine EqE.mk _ (n_quo _ 32 (by omega)) ?_ | with_reducible refine EqE.mk _ (n_u32 _) ?_ | with_reducible refine EqE.mk _ (n_u8 _) ?_ | with_reducible refine EqE.mk _ (n_u64 _ (by omega)) ?_ | with_reducible refine EqE.mk _ (n_i64 _ (by omega)) ?_ | with_reducible refine EqE.mk _ (n_succ _ (by omega)) ?_ | with_reducible refine EqE.mk _ (n_iadd _ _ (by omega)) ?_ | with_reducible refine EqE.mk _ (wrap_u64 (by omega) (by omega)) ?_ | with_reducible refine EqE.mk _ (wrap_u32 _) ?_ | with_reducible refine EqE.mk _ (wrap_in (by omega) (by omega)) ?_ | refine EqE.mk _ rfl ?_)
      | ((with_reducible refine EqE.idF ?_); first  | with_reducible refine EqE.mk _ (n_shr63 _) ?_ | with_reducible refine EqE.mk _ (n_shrv _ _ (by omega)) ?_ | with_reducible refine EqE.mk _ (n_shrv32 _ _ (by omega)) ?_ | with_reducible refine EqE.mk _ (n_shr1_32 _) ?_ | refine EqE.mk _ (n_shr _ 4294967296 _ _ rfl) ?_ | refine EqE.mk _ (n_shr _ 65536 _ _ rfl) ?_ | refine EqE.mk _ (n_shr _ 256 _ _ rfl) ?_ | refine EqE.mk _ (n_shr _ 134217728 _ _ rfl) ?_ | refine EqE.mk _ (n_shr _ 2 _ _ rfl) ?_ | refine EqE.mk _ (n_shr _ 16 _ _ rfl) ?_ | refine EqE.mk _ rfl ?_)
      | ((with_reducible refine EqE.idM ?_); first  | refine EqE.mk _ (n_rem _ 32) ?_ | refine EqE.mk _ (n_rem _ _) ?_ | refine EqE.mk _ rfl ?_)
      | ((with_reducible refine EqE.idI ?_); first  | refine EqE.mk _ (max0 _) ?_ | with_reducible refine EqE.mk _ (max_nat _ _) ?_ | refine EqE.mk _ (max_eq _ _) ?_ | refine EqE.mk _ (min_eq _ _) ?_)
      | ((with_reducible refine EqE.idS ?_); first  | refine EqE.mk _ (la_setN _ _ _ _ (by first | exact own_ix _ | exact own_ixI _ | rfl) (by first | omega | (simp only [List.length_set]; omega)) (by omega)) ?_ | refine EqE.mk _ (la_set _ _ _ _ (by first | exact own_ix _ | exact own_ixI _ | rfl) (by omega) (by omega) (by omega)) ?_ | refine EqE.mk _ rfl ?_)
      | ((with_reducible refine EqE.idA ?_); first | refine EqE.mk _ (la_app0 _) ?_ | refine EqE.mk _ (la_app _ _) ?_ | refine EqE.mk _ rfl ?_)
      | ((with_reducible refine EqE.idR ?_); first | refine EqE.mk _ (la_rep _) ?_ | refine EqE.mk _ rfl ?_)
      | ((with_reducible refine EqE.idL ?_); first  | refine EqE.mk _ (sl_own _ _ _ _ (by omega) (by omega) rfl) ?_ | refine EqE.mk _ (sl_sliceN _ _ (by omega)) ?_ | refine EqE.mk _ (sl_slice _ _ _ (by omega) (by omega) (by omega)) ?_ | refine EqE.mk _ rfl ?_)
      | refine EqE.mk _ rfl ?_
      | refine Cd.mk (Nat.le_of_ble_eq_true rfl) ?_
      | refine Cd.mk ⟨rfl, rfl⟩ ?_
      | refine Cd.mk (limbs_one _) ?_
      | refine Cd.mk (by (try dsimp only); (try simp only [length_limbs, length_la, Nat.mul_one, List.length_set, List.length_take, List.length_drop, List.length_replicate]); (try omega); done) ?_
      | refine Cd.mk ?_ ?_)
    · omega
    · rename_i h5
      show D.tup [sl _, sl _, .bool true] = D.tup [sl _, sl _, .bool true]
      simp only [Nat.pow_zero, Nat.div_one, Nat.mul_one] at hr hq
      rw [hr, hq]
  obtain rfl : i = (k : Int) := by omega
  have hs : k % 32 < 32 := Nat.mod_lt _ (by decide)
  obtain ⟨c, hc⟩ := limb_clear hq
  have ho := u32_lt (q.getD (k / 32) 0)
  have hlt := orbit_lt hs ho hc
  have hrb : nv r < nv b := by rw [hr, nv_ofN]; exact Nat.mod_lt _ (by omega)
  have hrl : r.length ≤ b.length := by rw [hr]; exact ofN_len_le.2 (Nat.lt_trans (by rw [← nv_ofN (_ % _), ← hr]; exact hrb) (nv_lt b))
  have hr1 : (ofN (nv r * 2 ^ (Int.toNat 1))).length ≤ b.length + 1 := ofN_len_le.2 (by rw [Pw_succ]; have := nv_lt b; show nv r * 2 < _; omega)
  have hr2 : (ofN (nv (ofN (nv r * 2 ^ (Int.toNat 1))) + nv [1])).length ≤ b.length + 1 := ofN_len_le.2 (by rw [Pw_succ, nv_ofN]; have := nv_lt b; show nv r * 2 + 1 < _; omega)
  have hst := div_step (nv a) (nv b) k _ (by omega) rfl
  have hrv : nv r = nv a / 2 ^ (k + 1) % nv b := by rw [hr, nv_ofN]
  repeat' ((conv => whnf); first
    | refine CallE.mk _ _ (rtrim_sim _ (by omega)) ?_
    | refine CallE.mk _ _ (rshl_sim _ _ (by omega) (by omega)) ?_
    | refine CallE.mk _ _ (rbit_sim _ _ (by omega) (by omega)) ?_
    | refine CallE.mk _ _ (radd_sim _ _ (by omega) (by simp)) ?_
    | refine CallE.mk _ _ (rcmp_sim _ _ (by omega) (by omega)) ?_
    | refine CallE.mk _ _ (rsub_sim _ _ (by omega) (by omega)) ?_
    | refine DsE.mk (limbs [1]) rfl ?_
    | refine Cd.mk (show 0 + 1 ≤ List.length (repA 1 _) from Nat.le_of_ble_eq_true rfl) ?_
    | refine Cd.mk (show regOk _ _ _ _ = true by kernel_rfl) ?_
    | refine Cd.mk rfl ?_
    | refine Br.t ?_
    | refine Br.f ?_
    | with_reducible refine Br.dec (fun _ => ?_) (fun _ => ?_)
    | with_reducible refine Br.ndec (fun _ => ?_) (fun _ => ?_)
    | refine Br.mk (fun _ => ?_) (fun _ => ?_)
    | refine NthE.mk _ (limbs_dropN _ _ (by omega)) ?_
    | refine NthE.mk _ (limbs_drop _ _ (by omega)) ?_
    | refine NthE.mk _ (la_get _ _ _ (by first | exact own_ix _ | exact own_ixI _ | rfl) (by first | omega | (simp only [List.length_set]; omega))) ?_
    | refine NthE.mk _ rfl ?_
    | refine And.intro (fun _ => ?_) ?_
    | refine TkE.mk _ rfl rfl ?_
    | refine Res.mk ?_
    | refine DsE.mk (limbs _) rfl ?_
    | refine DsE.mk [] rfl ?_
    | refine LoopEnd.go _ _ ⟨.inl rfl, rfl, rfl, by first | rfl | (repeat first | exact all_nil _ | refine all_la _ _ _ _ _ ?_)⟩ ?_
    | ((with_reducible refine EqE.idW ?_); first | with_reducible refine EqE.mk _ (n_shl1_32 _ hs) ?_ | with_reducible refine EqE.mk _ (n_orbit hs ho hc) ?_ | with_reducible refine EqE.mk _ (wrap_u64_u32 _) ?_ | with_reducible refine EqE.mk _ (n_add _ _ (by omega)) ?_ | with_reducible refine EqE.mk _ (n_shl32 _ (by omega)) ?_ | with_reducible refine EqE.mk _ (n_shl _ _ (by omega) (by omega)) ?_ | with_reducible refine EqE.mk _ (n_mul _ _ (by omega)) ?_ | with_reducible refine EqE.mk _ (n_sub _ _ (by omega) (by omega)) ?_ | with_reducible refine EqE.mk _ (n_and1 _ (by omega)) ?_ | with_reducible refine EqE.mk _ (n_andm _ (by omega)) ?_ | with_reducible refine EqE.mk _ (n_and1_32 _ (by omega)) ?_ | with_reducible refine EqE.mk _ (n_and _ _ (by omega) (by omega)) ?_ | with_reducible refine EqE.mk _ (n_or _ _ (by omega) (by omega)) ?_ | refine EqE.mk _ (n_quo _ 32 (by omega)) ?_ | with_reducible refine EqE.mk _ (n_u32 _) ?_ | with_reducible refine EqE.mk _ (n_u8 _) ?_ | with_reducible refine EqE.mk _ (n_u64 _ (by omega)) ?_ | with_reducible refine EqE.mk _ (n_i64 _ (by omega)) ?_ | with_reducible refine EqE.mk _ (n_succ _ (by omega)) ?_ | with_reducible refine EqE.mk _ (n_iadd _ _ (by omega)) ?_ | with_reducible refine EqE.mk _ (wrap_u64 (by omega) (by omega)) ?_ | with_reducible refine EqE.mk _ (wrap_u32 _) ?_ | with_reducible refine EqE.mk _ (wrap_in (by omega) (by omega)) ?_ | refine EqE.mk _ rfl ?_)
    | ((with_reducible refine EqE.idF ?_); first  | with_reducible refine EqE.mk _ (n_shr63 _) ?_ | with_reducible refine EqE.mk _ (n_shrv _ _ (by omega)) ?_ | with_reducible refine EqE.mk _ (n_shrv32 _ _ (by omega)) ?_ | with_reducible refine EqE.mk _ (n_shr1_32 _) ?_ | refine EqE.mk _ (n_shr _ 4294967296 _ _ rfl) ?_ | refine EqE.mk _ (n_shr _ 65536 _ _ rfl) ?_ | refine EqE.mk _ (n_shr _ 256 _ _ rfl) ?_ | refine EqE.mk _ (n_shr _ 134217728 _ _ rfl) ?_ | refine EqE.mk _ (n_shr _ 2 _ _ rfl) ?_ | refine EqE.mk _ (n_shr _ 16 _ _ rfl) ?_ | refine EqE.mk _ rfl ?_)
    | ((with_reducible refine EqE.idM ?_); first  | refine EqE.mk _ (n_rem _ 32) ?_ | refine EqE.mk _ (n_rem _ _) ?_ | refine EqE.mk _ rfl ?_)
    | ((with_reducible refine EqE.idI ?_); first  | refine EqE.mk _ (max0 _) ?_ | with_reducible refine EqE.mk _ (max_nat _ _) ?_ | refine EqE.mk _ (max_eq _ _) ?_ | refine EqE.mk _ (min_eq _ _) ?_)
    | ((with_reducible refine EqE.idS ?_); first  | refine EqE.mk _ (la_setN _ _ _ _ (by first | exact own_ix _ | exact own_ixI _ | rfl) (by first | omega | (simp only [List.length_set]; omega)) (by omega)) ?_ | refine EqE.mk _ (la_set _ _ _ _ (by first | exact own_ix _ | exact own_ixI _ | rfl) (by omega) (by omega) (by omega)) ?_ | refine EqE.mk _ rfl ?_)
    | ((with_reducible refine EqE.idA ?_); first | refine EqE.mk _ (la_app0 _) ?_ | refine EqE.mk _ (la_app _ _) ?_ | refine EqE.mk _ rfl ?_)
    | ((with_reducible refine EqE.idR ?_); first | refine EqE.mk _ (la_rep _) ?_ | refine EqE.mk _ rfl ?_)
    | ((with_reducible refine EqE.idL ?_); first | refine EqE.mk (sl [1]) rfl ?_ | refine EqE.mk _ (sl_own _ _ _ _ (by omega) (by omega) rfl) ?_ | refine EqE.mk _ (sl_sliceN _ _ (by omega)) ?_ | refine EqE.mk _ (sl_slice _ _ _ (by omega) (by omega) (by omega)) ?_ | refine EqE.mk _ rfl ?_)
    | refine EqE.mk _ rfl ?_
    | refine Cd.mk (Nat.le_of_ble_eq_true rfl) ?_
    | refine Cd.mk ⟨rfl, rfl⟩ ?_
    | refine Cd.mk (limbs_one _) ?_
    | refine Cd.mk (by (try dsimp only); (try simp only [length_limbs, length_la, Nat.mul_one, List.length_set, List.length_take, List.length_drop, List.length_replicate]); (try omega); done) ?_
    | refine Cd.mk ?_ ?_)
  · rename_i hbit hcmp
    have e1 : nv (ofN (nv (ofN (nv r * 2 ^ Int.toNat 1)) + nv [1])) = nv r * 2 + 1 := by rw [nv_ofN, nv_ofN]; rfl
    rw [nv_ofN] at hbit
    rw [cmpN_ge] at hcmp
    rw [nv_ofN, e1] at hcmp
    rw [hbit, ← hrv] at hst
    simp only [Bool.toNat_true, Nat.add_zero] at hst
    rw [if_pos hcmp, if_pos hcmp] at hst
    refine ⟨k, ⟨_, n, _, _, rfl, hn, by omega, ?_, ?_, ?_, rfl, rfl⟩, by omega⟩
    · rw [hst.1, e1, nv_ofN]
    · rw [nv_setbit (by omega) hlt, hq, hst.2, Nat.pow_succ]; grind
    · rw [List.length_set, hql]
  · rename_i hbit hcmp
    have e1 : nv (ofN (nv (ofN (nv r * 2 ^ Int.toNat 1)) + nv [1])) = nv r * 2 + 1 := by rw [nv_ofN, nv_ofN]; rfl
    rw [nv_ofN] at hbit
    rw [cmpN_ge] at hcmp
    rw [nv_ofN, e1] at hcmp
    rw [hbit, ← hrv] at hst
    simp only [Bool.toNat_true, Nat.add_zero] at hst
    rw [if_neg hcmp, if_neg hcmp] at hst
    refine ⟨k, ⟨_, n, _, _, rfl, hn, by omega, ?_, ?_, ?_, rfl, rfl⟩, by omega⟩
    · rw [hst.1, ← e1, nv_ofN, nv_ofN]
    · rw [hq, hst.2, Nat.pow_succ]; grind
    · exact hql
  · rename_i hbit hcmp
    have e1 : nv (ofN (nv r * 2 ^ Int.toNat 1)) = nv r * 2 := by rw [nv_ofN]; rfl
    rw [nv_ofN] at hbit
    rw [cmpN_ge] at hcmp
    rw [nv_ofN, e1] at hcmp
    rw [hbit, ← hrv] at hst
    simp only [Bool.toNat_false, Nat.add_zero] at hst
    rw [if_pos hcmp, if_pos hcmp] at hst
    refine ⟨k, ⟨_, n, _, _, rfl, hn, by omega, ?_, ?_, ?_, rfl, rfl⟩, by omega⟩
    · rw [hst.1, e1, nv_ofN]
    · rw [nv_setbit (by omega) hlt, hq, hst.2, Nat.pow_succ]; grind
    · rw [List.length_set, hql]
  · rename_i hbit hcmp
    have e1 : nv (ofN (nv r * 2 ^ Int.toNat 1)) = nv r * 2 := by rw [nv_ofN]; rfl
    rw [nv_ofN] at hbit
    rw [cmpN_ge] at hcmp
    rw [nv_ofN, e1] at hcmp
    rw [hbit, ← hrv] at hst
    simp only [Bool.toNat_false, Nat.add_zero] at hst
    rw [if_neg hcmp, if_neg hcmp] at hst
    refine ⟨k, ⟨_, n, _, _, rfl, hn, by omega, ?_, ?_, ?_, rfl, rfl⟩, by omega⟩
    · rw [hst.1, ← e1, nv_ofN]
    · rw [hq, hst.2, Nat.pow_succ]; grind
    · exact hql
end Go.Ev.Ar
