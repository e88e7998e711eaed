/- Contracts of the given functions, on data. Conditions stand in each theorem. -/
import Derived.Test.YtmgbegcamhkblaaDoorArRefB
set_option linter.unusedSimpArgs false
set_option linter.unusedVariables false
namespace Go.Ev.Ar
open Go Go.Ev Go.Proofs

theorem rbits_sim (l : List UInt32) (hl : l.length < 2^32) : Sim Tryd.prog G0 true 133 [sl l] (.int .i64 (nb (nv l))) := by
  refine sim_mk tab_ok Tryd.func133 rfl (by kernel_rfl) rfl ⟨Nat.le_of_ble_eq_true rfl, Nat.le_of_ble_eq_true rfl⟩ ?_
  have h := ofN_len_nv l
  repeat' ((conv => whnf); first
    | with_reducible refine CallX.data ?_
    | refine CallE.mk _ _ (rtrim_sim _ (by omega)) ?_
    | refine Cd.mk (show regOk _ _ _ _ = true by kernel_rfl) ?_
    | refine Cd.mk rfl ?_
    | refine Br.t ?_
    | refine Br.f ?_
    | with_reducible refine Br.dec (fun _ => ?_) (fun _ => ?_)
    | with_reducible refine Br.ndec (fun _ => ?_) (fun _ => ?_)
    | refine Br.mk (fun _ => ?_) (fun _ => ?_)
    | refine NthE.mk _ (limbs_dropN _ _ (by omega)) ?_
    | refine NthE.mk _ (limbs_drop _ _ (by omega)) ?_
    | refine NthE.mk _ (la_get _ _ _ (by first | with_reducible exact own_ix _ | with_reducible exact own_ixI _ | exact own_ix _ | exact own_ixI _ | rfl) (by first | omega | (simp only [List.length_set]; omega))) ?_
    | refine NthE.mk _ rfl ?_
    | refine And.intro (fun _ => ?_) ?_
    | (refine TkE.fL ?_; (conv => whnf); fail_if_success (show forceL _ _))
    | refine TkE.mk _ rfl rfl ?_
    | refine Res.mk ?_
    | refine DsE.mk (limbs _) rfl ?_
    | refine DsE.mk [] rfl ?_
    | refine LoopEnd.go _ _ ⟨.inl rfl, rfl, rfl, by first | rfl | (repeat first | exact all_nil _ | refine all_la _ _ _ _ _ ?_)⟩ ?_
    | ((with_reducible refine EqE.idW ?_); first  | with_reducible refine EqE.mk _ (wrap_u64_u32 _) ?_ | with_reducible refine EqE.mk _ (n_add _ _ (by omega)) ?_ | with_reducible refine EqE.mk _ (n_shl32 _ (by omega)) ?_ | with_reducible refine EqE.mk _ (n_shl _ _ (by omega) (by omega)) ?_ | with_reducible refine EqE.mk _ (n_mul _ _ (by omega)) ?_ | with_reducible refine EqE.mk _ (n_sub _ _ (by omega) (by omega)) ?_ | with_reducible refine EqE.mk _ (n_and1 _ (by omega)) ?_ | with_reducible refine EqE.mk _ (n_andm _ (by omega)) ?_ | with_reducible refine EqE.mk _ (n_and1_32 _ (by omega)) ?_ | with_reducible refine EqE.mk _ (n_and _ _ (by omega) (by omega)) ?_ | with_reducible refine EqE.mk _ (n_or _ _ (by omega) (by omega)) ?_ | refine EqE.mk _ (n_quo _ 32 (by omega)) ?_ | with_reducible refine EqE.mk _ (n_u32 _) ?_ | with_reducible refine EqE.mk _ (n_u8 _) ?_ | with_reducible refine EqE.mk _ (n_u64 _ (by omega)) ?_ | with_reducible refine EqE.mk _ (n_i64 _ (by omega)) ?_ | with_reducible refine EqE.mk _ (n_succ _ (by omega)) ?_ | with_reducible refine EqE.mk _ (n_iadd _ _ (by omega)) ?_ | with_reducible refine EqE.mk _ (wrap_u64 (by omega) (by omega)) ?_ | with_reducible refine EqE.mk _ (wrap_u32 _) ?_ | with_reducible refine EqE.mk _ (wrap_in (by omega) (by omega)) ?_ | refine EqE.mk _ rfl ?_)
    | ((with_reducible refine EqE.idF ?_); first  | with_reducible refine EqE.mk _ (n_shr63 _) ?_ | with_reducible refine EqE.mk _ (n_shrv _ _ (by omega)) ?_ | with_reducible refine EqE.mk _ (n_shrv32 _ _ (by omega)) ?_ | with_reducible refine EqE.mk _ (n_shr1_32 _) ?_ | refine EqE.mk _ (n_shr _ 4294967296 _ _ rfl) ?_ | refine EqE.mk _ (n_shr _ 65536 _ _ rfl) ?_ | refine EqE.mk _ (n_shr _ 256 _ _ rfl) ?_ | refine EqE.mk _ (n_shr _ 134217728 _ _ rfl) ?_ | refine EqE.mk _ (n_shr _ 2 _ _ rfl) ?_ | refine EqE.mk _ (n_shr _ 16 _ _ rfl) ?_ | refine EqE.mk _ rfl ?_)
    | ((with_reducible refine EqE.idM ?_); first  | refine EqE.mk _ (n_rem _ 32) ?_ | refine EqE.mk _ (n_rem _ _) ?_ | refine EqE.mk _ rfl ?_)
    | ((with_reducible refine EqE.idI ?_); first  | refine EqE.mk _ (max0 _) ?_ | with_reducible refine EqE.mk _ (max_nat _ _) ?_ | refine EqE.mk _ (max_eq _ _) ?_ | refine EqE.mk _ (min_eq _ _) ?_)
    | ((with_reducible refine EqE.idS ?_); first  | refine EqE.mk _ (la_setN _ _ _ _ (by first | with_reducible exact own_ix _ | with_reducible exact own_ixI _ | exact own_ix _ | exact own_ixI _ | rfl) (by first | omega | (simp only [List.length_set]; omega)) (by omega)) ?_ | refine EqE.mk _ (la_set _ _ _ _ (by first | with_reducible exact own_ix _ | with_reducible exact own_ixI _ | exact own_ix _ | exact own_ixI _ | rfl) (by omega) (by omega) (by omega)) ?_ | (refine EqE.fL ?_; (conv => whnf); fail_if_success (show forceL _ _)) | refine EqE.mk _ rfl ?_)
    | ((with_reducible refine EqE.idA ?_); first | refine EqE.mk _ (la_app0 _) ?_ | refine EqE.mk _ (la_app _ _) ?_ | refine EqE.mk _ rfl ?_)
    | ((with_reducible refine EqE.idR ?_); first | refine EqE.mk _ (la_rep _) ?_ | refine EqE.mk _ rfl ?_)
    | ((with_reducible refine EqE.idL ?_); first  | refine EqE.mk _ (sl_own _ _ _ _ (by omega) (by omega) rfl) ?_ | refine EqE.mk _ (sl_sliceN _ _ (by omega)) ?_ | refine EqE.mk _ (sl_slice _ _ _ (by omega) (by omega) (by omega)) ?_ | refine EqE.mk _ rfl ?_)
    | refine EqE.mk _ rfl ?_
    | refine Cd.mk (Nat.le_of_ble_eq_true rfl) ?_
    | refine Cd.mk ⟨rfl, rfl⟩ ?_
    | refine Cd.mk (limbs_one _) ?_
    | refine Cd.mk (by (try dsimp only); (try simp only [length_limbs, length_la, Nat.mul_one, List.length_set, List.length_take, List.length_drop, List.length_replicate]); (try omega); done) ?_
    | refine Cd.mk ?_ ?_)
  · rename_i h0
    show D.int _ _ = D.int _ _
    rw [ofN_len_zero.1 (show (ofN (nv l)).length = 0 by omega)]; rfl
  rename_i h0
  have hn : nv l ≠ 0 := fun e => h0 (by rw [e, ofN_zero]; rfl)
  have h4 : nb ((ofN (nv l)).getD ((ofN (nv l)).length - 1) 0).toNat ≤ 32 := nb_le.2 (u32_lt _)
  have e : (((ofN (nv l)).length : Int) - 1).toNat = (ofN (nv l)).length - 1 := by omega
  have hu := u32_lt ((ofN (nv l)).getD ((ofN (nv l)).length - 1) 0)
  rw [nb_top hn]
  repeat' ((conv => whnf); first
    | with_reducible refine CallX.data ?_
    | refine Cd.mk (show regOk _ _ _ _ = true by kernel_rfl) ?_
    | refine Cd.mk rfl ?_
    | refine Br.t ?_
    | refine Br.f ?_
    | with_reducible refine Br.dec (fun _ => ?_) (fun _ => ?_)
    | with_reducible refine Br.ndec (fun _ => ?_) (fun _ => ?_)
    | refine Br.mk (fun _ => ?_) (fun _ => ?_)
    | refine NthE.mk _ (limbs_dropN _ _ (by omega)) ?_
    | refine NthE.mk _ (limbs_drop _ _ (by omega)) ?_
    | refine NthE.mk _ (la_get _ _ _ (by first | with_reducible exact own_ix _ | with_reducible exact own_ixI _ | exact own_ix _ | exact own_ixI _ | rfl) (by first | omega | (simp only [List.length_set]; omega))) ?_
    | refine NthE.mk _ rfl ?_
    | refine And.intro (fun _ => ?_) ?_
    | (refine TkE.fL ?_; (conv => whnf); fail_if_success (show forceL _ _))
    | refine TkE.mk _ rfl rfl ?_
    | refine Res.mk ?_
    | refine DsE.mk (limbs _) rfl ?_
    | refine DsE.mk [] rfl ?_
    | refine LoopEnd.go _ _ ⟨.inl rfl, rfl, rfl, by first | rfl | (repeat first | exact all_nil _ | refine all_la _ _ _ _ _ ?_)⟩ ?_
    | ((with_reducible refine EqE.idW ?_); first  | with_reducible refine EqE.mk _ (wrap_u64_u32 _) ?_ | with_reducible refine EqE.mk _ (n_add _ _ (by omega)) ?_ | with_reducible refine EqE.mk _ (n_shl32 _ (by omega)) ?_ | with_reducible refine EqE.mk _ (n_shl _ _ (by omega) (by omega)) ?_ | with_reducible refine EqE.mk _ (n_mul _ _ (by omega)) ?_ | with_reducible refine EqE.mk _ (n_sub _ _ (by omega) (by omega)) ?_ | with_reducible refine EqE.mk _ (n_and1 _ (by omega)) ?_ | with_reducible refine EqE.mk _ (n_andm _ (by omega)) ?_ | with_reducible refine EqE.mk _ (n_and1_32 _ (by omega)) ?_ | with_reducible refine EqE.mk _ (n_and _ _ (by omega) (by omega)) ?_ | with_reducible refine EqE.mk _ (n_or _ _ (by omega) (by omega)) ?_ | refine EqE.mk _ (n_quo _ 32 (by omega)) ?_ | with_reducible refine EqE.mk _ (n_u32 _) ?_ | with_reducible refine EqE.mk _ (n_u8 _) ?_ | with_reducible refine EqE.mk _ (n_u64 _ (by omega)) ?_ | with_reducible refine EqE.mk _ (n_i64 _ (by omega)) ?_ | with_reducible refine EqE.mk _ (n_succ _ (by omega)) ?_ | with_reducible refine EqE.mk _ (n_iadd _ _ (by omega)) ?_ | with_reducible refine EqE.mk _ (wrap_u64 (by omega) (by omega)) ?_ | with_reducible refine EqE.mk _ (wrap_u32 _) ?_ | with_reducible refine EqE.mk _ (wrap_in (by omega) (by omega)) ?_ | refine EqE.mk _ rfl ?_)
    | ((with_reducible refine EqE.idF ?_); first  | with_reducible refine EqE.mk _ (n_shr63 _) ?_ | with_reducible refine EqE.mk _ (n_shrv _ _ (by omega)) ?_ | with_reducible refine EqE.mk _ (n_shrv32 _ _ (by omega)) ?_ | with_reducible refine EqE.mk _ (n_shr1_32 _) ?_ | refine EqE.mk _ (n_shr _ 4294967296 _ _ rfl) ?_ | refine EqE.mk _ (n_shr _ 65536 _ _ rfl) ?_ | refine EqE.mk _ (n_shr _ 256 _ _ rfl) ?_ | refine EqE.mk _ (n_shr _ 134217728 _ _ rfl) ?_ | refine EqE.mk _ (n_shr _ 2 _ _ rfl) ?_ | refine EqE.mk _ (n_shr _ 16 _ _ rfl) ?_ | refine EqE.mk _ rfl ?_)
    | ((with_reducible refine EqE.idM ?_); first  | refine EqE.mk _ (n_rem _ 32) ?_ | refine EqE.mk _ (n_rem _ _) ?_ | refine EqE.mk _ rfl ?_)
    | ((with_reducible refine EqE.idI ?_); first  | refine EqE.mk _ (max0 _) ?_ | with_reducible refine EqE.mk _ (max_nat _ _) ?_ | refine EqE.mk _ (max_eq _ _) ?_ | refine EqE.mk _ (min_eq _ _) ?_)
    | ((with_reducible refine EqE.idS ?_); first  | refine EqE.mk _ (la_setN _ _ _ _ (by first | with_reducible exact own_ix _ | with_reducible exact own_ixI _ | exact own_ix _ | exact own_ixI _ | rfl) (by first | omega | (simp only [List.length_set]; omega)) (by omega)) ?_ | refine EqE.mk _ (la_set _ _ _ _ (by first | with_reducible exact own_ix _ | with_reducible exact own_ixI _ | exact own_ix _ | exact own_ixI _ | rfl) (by omega) (by omega) (by omega)) ?_ | (refine EqE.fL ?_; (conv => whnf); fail_if_success (show forceL _ _)) | refine EqE.mk _ rfl ?_)
    | ((with_reducible refine EqE.idA ?_); first | refine EqE.mk _ (la_app0 _) ?_ | refine EqE.mk _ (la_app _ _) ?_ | refine EqE.mk _ rfl ?_)
    | ((with_reducible refine EqE.idR ?_); first | refine EqE.mk _ (la_rep _) ?_ | refine EqE.mk _ rfl ?_)
    | ((with_reducible refine EqE.idL ?_); first  | refine EqE.mk _ (sl_own _ _ _ _ (by omega) (by omega) rfl) ?_ | refine EqE.mk _ (sl_sliceN _ _ (by omega)) ?_ | refine EqE.mk _ (sl_slice _ _ _ (by omega) (by omega) (by omega)) ?_ | refine EqE.mk _ rfl ?_)
    | refine EqE.mk _ rfl ?_
    | refine Cd.mk (Nat.le_of_ble_eq_true rfl) ?_
    | refine Cd.mk ⟨rfl, rfl⟩ ?_
    | refine Cd.mk (limbs_one _) ?_
    | refine Cd.mk (by (try dsimp only); (try simp only [length_limbs, length_la, Nat.mul_one, List.length_set, List.length_take, List.length_drop, List.length_replicate]); (try omega); done) ?_
    | refine Cd.mk ?_ ?_)
  rw [e]
  refine ⟨[], [4, 5], [], fun m xs h => ∃ (t : Nat) (c : Int), m = t ∧ t < 4294967296 ∧ c + nb t = 32 * ((ofN (nv l)).length - 1) + nb ((ofN (nv l)).getD ((ofN (nv l)).length - 1) 0).toNat ∧ xs = [.d (.int .i64 c), .d (.int .u32 t)] ∧ h = [],
    ⟨_, _, _, ⟨.inl rfl, rfl, rfl, by first | rfl | (repeat first | exact all_nil _ | refine all_la _ _ _ _ _ ?_)⟩, _, _, rfl, hu, ?_, rfl, rfl⟩, ?_⟩
  · omega
  rintro m xs h ⟨t, c, rfl, ht, hv, rfl, rfl⟩
  have hnb : nb m ≤ 32 := nb_le.2 ht
  repeat' ((conv => whnf); first
    | with_reducible refine CallX.data ?_
    | refine Cd.mk (show regOk _ _ _ _ = true by kernel_rfl) ?_
    | refine Cd.mk rfl ?_
    | refine Br.t ?_
    | refine Br.f ?_
    | with_reducible refine Br.dec (fun _ => ?_) (fun _ => ?_)
    | with_reducible refine Br.ndec (fun _ => ?_) (fun _ => ?_)
    | refine Br.mk (fun _ => ?_) (fun _ => ?_)
    | refine NthE.mk _ (limbs_dropN _ _ (by omega)) ?_
    | refine NthE.mk _ (limbs_drop _ _ (by omega)) ?_
    | refine NthE.mk _ (la_get _ _ _ (by first | with_reducible exact own_ix _ | with_reducible exact own_ixI _ | exact own_ix _ | exact own_ixI _ | rfl) (by first | omega | (simp only [List.length_set]; omega))) ?_
    | refine NthE.mk _ rfl ?_
    | refine And.intro (fun _ => ?_) ?_
    | (refine TkE.fL ?_; (conv => whnf); fail_if_success (show forceL _ _))
    | refine TkE.mk _ rfl rfl ?_
    | refine Res.mk ?_
    | refine DsE.mk (limbs _) rfl ?_
    | refine DsE.mk [] rfl ?_
    | refine LoopEnd.go _ _ ⟨.inl rfl, rfl, rfl, by first | rfl | (repeat first | exact all_nil _ | refine all_la _ _ _ _ _ ?_)⟩ ?_
    | ((with_reducible refine EqE.idW ?_); first  | with_reducible refine EqE.mk _ (wrap_u64_u32 _) ?_ | with_reducible refine EqE.mk _ (n_add _ _ (by omega)) ?_ | with_reducible refine EqE.mk _ (n_shl32 _ (by omega)) ?_ | with_reducible refine EqE.mk _ (n_shl _ _ (by omega) (by omega)) ?_ | with_reducible refine EqE.mk _ (n_mul _ _ (by omega)) ?_ | with_reducible refine EqE.mk _ (n_sub _ _ (by omega) (by omega)) ?_ | with_reducible refine EqE.mk _ (n_and1 _ (by omega)) ?_ | with_reducible refine EqE.mk _ (n_andm _ (by omega)) ?_ | with_reducible refine EqE.mk _ (n_and1_32 _ (by omega)) ?_ | with_reducible refine EqE.mk _ (n_and _ _ (by omega) (by omega)) ?_ | with_reducible refine EqE.mk _ (n_or _ _ (by omega) (by omega)) ?_ | refine EqE.mk _ (n_quo _ 32 (by omega)) ?_ | with_reducible refine EqE.mk _ (n_u32 _) ?_ | with_reducible refine EqE.mk _ (n_u8 _) ?_ | with_reducible refine EqE.mk _ (n_u64 _ (by omega)) ?_ | with_reducible refine EqE.mk _ (n_i64 _ (by omega)) ?_ | with_reducible refine EqE.mk _ (n_succ _ (by omega)) ?_ | with_reducible refine EqE.mk _ (n_iadd _ _ (by omega)) ?_ | with_reducible refine EqE.mk _ (wrap_u64 (by omega) (by omega)) ?_ | with_reducible refine EqE.mk _ (wrap_u32 _) ?_ | with_reducible refine EqE.mk _ (wrap_in (by omega) (by omega)) ?_ | refine EqE.mk _ rfl ?_)
    | ((with_reducible refine EqE.idF ?_); first  | with_reducible refine EqE.mk _ (n_shr63 _) ?_ | with_reducible refine EqE.mk _ (n_shrv _ _ (by omega)) ?_ | with_reducible refine EqE.mk _ (n_shrv32 _ _ (by omega)) ?_ | with_reducible refine EqE.mk _ (n_shr1_32 _) ?_ | refine EqE.mk _ (n_shr _ 4294967296 _ _ rfl) ?_ | refine EqE.mk _ (n_shr _ 65536 _ _ rfl) ?_ | refine EqE.mk _ (n_shr _ 256 _ _ rfl) ?_ | refine EqE.mk _ (n_shr _ 134217728 _ _ rfl) ?_ | refine EqE.mk _ (n_shr _ 2 _ _ rfl) ?_ | refine EqE.mk _ (n_shr _ 16 _ _ rfl) ?_ | refine EqE.mk _ rfl ?_)
    | ((with_reducible refine EqE.idM ?_); first  | refine EqE.mk _ (n_rem _ 32) ?_ | refine EqE.mk _ (n_rem _ _) ?_ | refine EqE.mk _ rfl ?_)
    | ((with_reducible refine EqE.idI ?_); first  | refine EqE.mk _ (max0 _) ?_ | with_reducible refine EqE.mk _ (max_nat _ _) ?_ | refine EqE.mk _ (max_eq _ _) ?_ | refine EqE.mk _ (min_eq _ _) ?_)
    | ((with_reducible refine EqE.idS ?_); first  | refine EqE.mk _ (la_setN _ _ _ _ (by first | with_reducible exact own_ix _ | with_reducible exact own_ixI _ | exact own_ix _ | exact own_ixI _ | rfl) (by first | omega | (simp only [List.length_set]; omega)) (by omega)) ?_ | refine EqE.mk _ (la_set _ _ _ _ (by first | with_reducible exact own_ix _ | with_reducible exact own_ixI _ | exact own_ix _ | exact own_ixI _ | rfl) (by omega) (by omega) (by omega)) ?_ | (refine EqE.fL ?_; (conv => whnf); fail_if_success (show forceL _ _)) | refine EqE.mk _ rfl ?_)
    | ((with_reducible refine EqE.idA ?_); first | refine EqE.mk _ (la_app0 _) ?_ | refine EqE.mk _ (la_app _ _) ?_ | refine EqE.mk _ rfl ?_)
    | ((with_reducible refine EqE.idR ?_); first | refine EqE.mk _ (la_rep _) ?_ | refine EqE.mk _ rfl ?_)
    | ((with_reducible refine EqE.idL ?_); first  | refine EqE.mk _ (sl_own _ _ _ _ (by omega) (by omega) rfl) ?_ | refine EqE.mk _ (sl_sliceN _ _ (by omega)) ?_ | refine EqE.mk _ (sl_slice _ _ _ (by omega) (by omega) (by omega)) ?_ | refine EqE.mk _ rfl ?_)
    | refine EqE.mk _ rfl ?_
    | refine Cd.mk (Nat.le_of_ble_eq_true rfl) ?_
    | refine Cd.mk ⟨rfl, rfl⟩ ?_
    | refine Cd.mk (limbs_one _) ?_
    | refine Cd.mk (by (try dsimp only); (try simp only [length_limbs, length_la, Nat.mul_one, List.length_set, List.length_take, List.length_drop, List.length_replicate]); (try omega); done) ?_
    | refine Cd.mk ?_ ?_)
  · rename_i h5
    refine ⟨_, ⟨_, _, rfl, by omega, ?_, rfl, rfl⟩, by omega⟩
    have := nb_half (t := m) (by omega)
    omega
  · rename_i h5
    have e : m = 0 := by omega
    subst e
    show D.int _ _ = D.int _ _
    rw [nb_zero] at hv
    congr 1; omega
theorem rbit_sim (l : List UInt32) (i : Nat) (hl : l.length < 2^32) (hi : i < 2^40) : Sim Tryd.prog G0 true 161 [sl l, .int .i64 i] (.bool ((nv l).testBit i)) := by
  refine sim_mk tab_ok Tryd.func161 rfl (by kernel_rfl) rfl ⟨Nat.le_of_ble_eq_true rfl, Nat.le_of_ble_eq_true rfl⟩ ?_
  have hx := u32_lt (l.getD (i / 32) 0)
  have hx2 := Nat.div_le_self (l.getD (i / 32) 0).toNat (2 ^ (i % 32))
  repeat' ((conv => whnf); first
    | with_reducible refine CallX.data ?_
    | refine Cd.mk (show regOk _ _ _ _ = true by kernel_rfl) ?_
    | refine Cd.mk rfl ?_
    | refine Br.t ?_
    | refine Br.f ?_
    | with_reducible refine Br.dec (fun _ => ?_) (fun _ => ?_)
    | with_reducible refine Br.ndec (fun _ => ?_) (fun _ => ?_)
    | refine Br.mk (fun _ => ?_) (fun _ => ?_)
    | refine NthE.mk _ (limbs_dropN _ _ (by omega)) ?_
    | refine NthE.mk _ (limbs_drop _ _ (by omega)) ?_
    | refine NthE.mk _ (la_get _ _ _ (by first | with_reducible exact own_ix _ | with_reducible exact own_ixI _ | exact own_ix _ | exact own_ixI _ | rfl) (by first | omega | (simp only [List.length_set]; omega))) ?_
    | refine NthE.mk _ rfl ?_
    | refine And.intro (fun _ => ?_) ?_
    | (refine TkE.fL ?_; (conv => whnf); fail_if_success (show forceL _ _))
    | refine TkE.mk _ rfl rfl ?_
    | refine Res.mk ?_
    | refine DsE.mk (limbs _) rfl ?_
    | refine DsE.mk [] rfl ?_
    | refine LoopEnd.go _ _ ⟨.inl rfl, rfl, rfl, by first | rfl | (repeat first | exact all_nil _ | refine all_la _ _ _ _ _ ?_)⟩ ?_
    | ((with_reducible refine EqE.idW ?_); first  | with_reducible refine EqE.mk _ (wrap_u64_u32 _) ?_ | with_reducible refine EqE.mk _ (n_add _ _ (by omega)) ?_ | with_reducible refine EqE.mk _ (n_shl32 _ (by omega)) ?_ | with_reducible refine EqE.mk _ (n_shl _ _ (by omega) (by omega)) ?_ | with_reducible refine EqE.mk _ (n_mul _ _ (by omega)) ?_ | with_reducible refine EqE.mk _ (n_sub _ _ (by omega) (by omega)) ?_ | with_reducible refine EqE.mk _ (n_and1 _ (by omega)) ?_ | with_reducible refine EqE.mk _ (n_andm _ (by omega)) ?_ | with_reducible refine EqE.mk _ (n_and1_32 _ (by omega)) ?_ | with_reducible refine EqE.mk _ (n_and _ _ (by omega) (by omega)) ?_ | with_reducible refine EqE.mk _ (n_or _ _ (by omega) (by omega)) ?_ | refine EqE.mk _ (n_quo _ 32 (by omega)) ?_ | with_reducible refine EqE.mk _ (n_u32 _) ?_ | with_reducible refine EqE.mk _ (n_u8 _) ?_ | with_reducible refine EqE.mk _ (n_u64 _ (by omega)) ?_ | with_reducible refine EqE.mk _ (n_i64 _ (by omega)) ?_ | with_reducible refine EqE.mk _ (n_succ _ (by omega)) ?_ | with_reducible refine EqE.mk _ (n_iadd _ _ (by omega)) ?_ | with_reducible refine EqE.mk _ (wrap_u64 (by omega) (by omega)) ?_ | with_reducible refine EqE.mk _ (wrap_u32 _) ?_ | with_reducible refine EqE.mk _ (wrap_in (by omega) (by omega)) ?_ | refine EqE.mk _ rfl ?_)
    | ((with_reducible refine EqE.idF ?_); first  | with_reducible refine EqE.mk _ (n_shr63 _) ?_ | with_reducible refine EqE.mk _ (n_shrv _ _ (by omega)) ?_ | with_reducible refine EqE.mk _ (n_shrv32 _ _ (by omega)) ?_ | with_reducible refine EqE.mk _ (n_shr1_32 _) ?_ | refine EqE.mk _ (n_shr _ 4294967296 _ _ rfl) ?_ | refine EqE.mk _ (n_shr _ 65536 _ _ rfl) ?_ | refine EqE.mk _ (n_shr _ 256 _ _ rfl) ?_ | refine EqE.mk _ (n_shr _ 134217728 _ _ rfl) ?_ | refine EqE.mk _ (n_shr _ 2 _ _ rfl) ?_ | refine EqE.mk _ (n_shr _ 16 _ _ rfl) ?_ | refine EqE.mk _ rfl ?_)
    | ((with_reducible refine EqE.idM ?_); first  | refine EqE.mk _ (n_rem _ 32) ?_ | refine EqE.mk _ (n_rem _ _) ?_ | refine EqE.mk _ rfl ?_)
    | ((with_reducible refine EqE.idI ?_); first  | refine EqE.mk _ (max0 _) ?_ | with_reducible refine EqE.mk _ (max_nat _ _) ?_ | refine EqE.mk _ (max_eq _ _) ?_ | refine EqE.mk _ (min_eq _ _) ?_)
    | ((with_reducible refine EqE.idS ?_); first  | refine EqE.mk _ (la_setN _ _ _ _ (by first | with_reducible exact own_ix _ | with_reducible exact own_ixI _ | exact own_ix _ | exact own_ixI _ | rfl) (by first | omega | (simp only [List.length_set]; omega)) (by omega)) ?_ | refine EqE.mk _ (la_set _ _ _ _ (by first | with_reducible exact own_ix _ | with_reducible exact own_ixI _ | exact own_ix _ | exact own_ixI _ | rfl) (by omega) (by omega) (by omega)) ?_ | (refine EqE.fL ?_; (conv => whnf); fail_if_success (show forceL _ _)) | refine EqE.mk _ rfl ?_)
    | ((with_reducible refine EqE.idA ?_); first | refine EqE.mk _ (la_app0 _) ?_ | refine EqE.mk _ (la_app _ _) ?_ | refine EqE.mk _ rfl ?_)
    | ((with_reducible refine EqE.idR ?_); first | refine EqE.mk _ (la_rep _) ?_ | refine EqE.mk _ rfl ?_)
    | ((with_reducible refine EqE.idL ?_); first  | refine EqE.mk _ (sl_own _ _ _ _ (by omega) (by omega) rfl) ?_ | refine EqE.mk _ (sl_sliceN _ _ (by omega)) ?_ | refine EqE.mk _ (sl_slice _ _ _ (by omega) (by omega) (by omega)) ?_ | refine EqE.mk _ rfl ?_)
    | refine EqE.mk _ rfl ?_
    | refine Cd.mk (Nat.le_of_ble_eq_true rfl) ?_
    | refine Cd.mk ⟨rfl, rfl⟩ ?_
    | refine Cd.mk (limbs_one _) ?_
    | refine Cd.mk (by (try dsimp only); (try simp only [length_limbs, length_la, Nat.mul_one, List.length_set, List.length_take, List.length_drop, List.length_replicate]); (try omega); done) ?_
    | refine Cd.mk ?_ ?_)
  · rename_i h0
    show D.bool _ = D.bool _
    rw [testBit_nv]
    congr 1
    rw [Bool.eq_iff_iff, decide_eq_true_iff, decide_eq_true_iff]; omega
  · rename_i h0
    show D.bool _ = D.bool _
    rw [testBit_nv, getD_big (by omega)]
    simp
end Go.Ev.Ar
