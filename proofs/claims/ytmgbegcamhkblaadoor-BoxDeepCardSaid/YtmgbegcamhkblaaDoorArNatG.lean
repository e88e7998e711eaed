/- Contracts of the given functions, on data. Conditions stand in each theorem. -/
import Derived.Test.YtmgbegcamhkblaaDoorArNatC
set_option linter.unusedSimpArgs false
set_option linter.unusedVariables false
namespace Go.Ev.Ar
open Go Go.Ev Go.Proofs

theorem tz_ix (x : Nat) : (0 : Int) ≤ ((x % 4294967296 / 134217728 : Nat) : Int) ∧ ((x % 4294967296 / 134217728 : Nat) : Int) < ((32 : Nat) : Int) := ⟨Int.natCast_nonneg _, Int.ofNat_lt.2 (deB_lt x)⟩
theorem tz32_sim (x : UInt32) (hx : x.toNat ≠ 0) : Sim Tryd.prog G0 true 192 [.int .u32 x.toNat] (.int .i64 (tzn x.toNat)) := by
  refine sim_mk tab_ok Tryd.func192 rfl (by kernel_rfl) rfl ⟨Nat.le_of_ble_eq_true rfl, Nat.le_of_ble_eq_true rfl⟩ ?_
  have h1 := u32_lt x
  have ht := tzn_lt (k := 32) hx h1
  repeat' ((conv => whnf); first
    | with_reducible refine CallX.data ?_
    | refine NthE.mk _ (deB_get _ _ (deB_lt _) (deB_tz _ ht)) ?_
    | refine Cd.mk (tz_ix _) ?_
    | refine Cd.mk (show regOk _ _ _ _ = true by kernel_rfl) ?_
    | refine Cd.mk rfl ?_
    | refine Br.t ?_
    | refine Br.f ?_
    | with_reducible refine Br.dec (fun _ => ?_) (fun _ => ?_)
    | with_reducible refine Br.ndec (fun _ => ?_) (fun _ => ?_)
    | refine Br.mk (fun _ => ?_) (fun _ => ?_)
    | refine NthE.mk _ (limbs_dropN _ _ (by omega)) ?_
    | refine NthE.mk _ (limbs_drop _ _ (by omega)) ?_
    | refine NthE.mk _ (la_get _ _ _ (by first | with_reducible exact own_ix _ | with_reducible exact own_ixI _ | exact own_ix _ | exact own_ixI _ | rfl) (by first | omega | (simp only [List.length_set]; omega))) ?_
    | refine NthE.mk _ rfl ?_
    | refine And.intro (fun _ => ?_) ?_
    | (refine TkE.fL ?_; (conv => whnf); fail_if_success (show forceL _ _))
    | refine TkE.mk _ rfl rfl ?_
    | refine Res.mk ?_
    | refine DsE.mk (limbs _) rfl ?_
    | refine DsE.mk [] rfl ?_
    | refine LoopEnd.go _ _ ⟨.inl rfl, rfl, rfl, by first | rfl | (repeat first | exact all_nil _ | refine all_la _ _ _ _ _ ?_)⟩ ?_
    | ((with_reducible refine EqE.idW ?_); first | with_reducible refine EqE.mk _ (n_neg32 _ h1) ?_ | with_reducible refine EqE.mk _ (n_low32 _ hx h1) ?_ | refine EqE.mk _ (n_mul32 _ 125613361) ?_ | with_reducible refine EqE.mk _ (wrap_u64_u32 _) ?_ | with_reducible refine EqE.mk _ (n_add _ _ (by omega)) ?_ | with_reducible refine EqE.mk _ (n_shl32 _ (by omega)) ?_ | with_reducible refine EqE.mk _ (n_shl _ _ (by omega) (by omega)) ?_ | with_reducible refine EqE.mk _ (n_mul _ _ (by omega)) ?_ | with_reducible refine EqE.mk _ (n_sub _ _ (by omega) (by omega)) ?_ | with_reducible refine EqE.mk _ (n_and1 _ (by omega)) ?_ | with_reducible refine EqE.mk _ (n_andm _ (by omega)) ?_ | with_reducible refine EqE.mk _ (n_and1_32 _ (by omega)) ?_ | with_reducible refine EqE.mk _ (n_and _ _ (by omega) (by omega)) ?_ | with_reducible refine EqE.mk _ (n_or _ _ (by omega) (by omega)) ?_ | refine EqE.mk _ (n_quo _ 32 (by omega)) ?_ | with_reducible refine EqE.mk _ (n_u32 _) ?_ | with_reducible refine EqE.mk _ (n_u8 _) ?_ | with_reducible refine EqE.mk _ (n_u64 _ (by omega)) ?_ | with_reducible refine EqE.mk _ (n_i64 _ (by omega)) ?_ | with_reducible refine EqE.mk _ (n_succ _ (by omega)) ?_ | with_reducible refine EqE.mk _ (n_iadd _ _ (by omega)) ?_ | with_reducible refine EqE.mk _ (wrap_u64 (by omega) (by omega)) ?_ | with_reducible refine EqE.mk _ (wrap_u32 _) ?_ | with_reducible refine EqE.mk _ (wrap_in (by omega) (by omega)) ?_ | refine EqE.mk _ rfl ?_)
    | ((with_reducible refine EqE.idF ?_); first  | with_reducible refine EqE.mk _ (n_shr63 _) ?_ | with_reducible refine EqE.mk _ (n_shrv _ _ (by omega)) ?_ | with_reducible refine EqE.mk _ (n_shrv32 _ _ (by omega)) ?_ | with_reducible refine EqE.mk _ (n_shr1_32 _) ?_ | refine EqE.mk _ (n_shr _ 4294967296 _ _ rfl) ?_ | refine EqE.mk _ (n_shr _ 65536 _ _ rfl) ?_ | refine EqE.mk _ (n_shr _ 256 _ _ rfl) ?_ | refine EqE.mk _ (n_shr _ 134217728 _ _ rfl) ?_ | refine EqE.mk _ (n_shr _ 2 _ _ rfl) ?_ | refine EqE.mk _ (n_shr _ 16 _ _ rfl) ?_ | refine EqE.mk _ rfl ?_)
    | ((with_reducible refine EqE.idM ?_); first  | refine EqE.mk _ (n_rem _ 32) ?_ | refine EqE.mk _ (n_rem _ _) ?_ | refine EqE.mk _ rfl ?_)
    | ((with_reducible refine EqE.idI ?_); first  | refine EqE.mk _ (max0 _) ?_ | with_reducible refine EqE.mk _ (max_nat _ _) ?_ | refine EqE.mk _ (max_eq _ _) ?_ | refine EqE.mk _ (min_eq _ _) ?_)
    | ((with_reducible refine EqE.idS ?_); first  | refine EqE.mk _ (la_setN _ _ _ _ (by first | with_reducible exact own_ix _ | with_reducible exact own_ixI _ | exact own_ix _ | exact own_ixI _ | rfl) (by first | omega | (simp only [List.length_set]; omega)) (by omega)) ?_ | refine EqE.mk _ (la_set _ _ _ _ (by first | with_reducible exact own_ix _ | with_reducible exact own_ixI _ | exact own_ix _ | exact own_ixI _ | rfl) (by omega) (by omega) (by omega)) ?_ | (refine EqE.fL ?_; (conv => whnf); fail_if_success (show forceL _ _)) | refine EqE.mk _ rfl ?_)
    | ((with_reducible refine EqE.idA ?_); first | refine EqE.mk _ (la_app0 _) ?_ | refine EqE.mk _ (la_app _ _) ?_ | refine EqE.mk _ rfl ?_)
    | ((with_reducible refine EqE.idR ?_); first | refine EqE.mk _ (la_rep _) ?_ | refine EqE.mk _ rfl ?_)
    | ((with_reducible refine EqE.idL ?_); first  | refine EqE.mk _ (sl_own _ _ _ _ (by omega) (by omega) rfl) ?_ | refine EqE.mk _ (sl_sliceN _ _ (by omega)) ?_ | refine EqE.mk _ (sl_slice _ _ _ (by omega) (by omega) (by omega)) ?_ | refine EqE.mk _ rfl ?_)
    | refine EqE.mk _ rfl ?_
    | refine Cd.mk (Nat.le_of_ble_eq_true rfl) ?_
    | refine Cd.mk ⟨rfl, rfl⟩ ?_
    | refine Cd.mk (limbs_one _) ?_
    | refine Cd.mk (by (try dsimp only); (try simp only [length_limbs, length_la, Nat.mul_one, List.length_set, List.length_take, List.length_drop, List.length_replicate]); (try omega); done) ?_
    | refine Cd.mk ?_ ?_)
  · rename_i h; exact absurd (by omega) hx
  · rfl

theorem low_sim (a : List UInt32) (ha : a.length < 2^30) (h0 : nv a ≠ 0) : Sim Tryd.prog G0 true 164 [sl a] (.int .i64 (tzn (nv a))) := by
  refine sim_mk tab_ok Tryd.func164 rfl (by kernel_rfl) rfl ⟨Nat.le_of_ble_eq_true rfl, Nat.le_of_ble_eq_true rfl⟩ ?_
  repeat' ((conv => whnf); first
    | with_reducible refine CallX.data ?_
    | refine Cd.mk (show regOk _ _ _ _ = true by kernel_rfl) ?_
    | refine Cd.mk rfl ?_
    | refine Br.t ?_
    | refine Br.f ?_
    | with_reducible refine Br.dec (fun _ => ?_) (fun _ => ?_)
    | with_reducible refine Br.ndec (fun _ => ?_) (fun _ => ?_)
    | refine Br.mk (fun _ => ?_) (fun _ => ?_)
    | refine NthE.mk _ (limbs_dropN _ _ (by omega)) ?_
    | refine NthE.mk _ (limbs_drop _ _ (by omega)) ?_
    | refine NthE.mk _ (la_get _ _ _ (by first | with_reducible exact own_ix _ | with_reducible exact own_ixI _ | exact own_ix _ | exact own_ixI _ | rfl) (by first | omega | (simp only [List.length_set]; omega))) ?_
    | refine NthE.mk _ rfl ?_
    | refine And.intro (fun _ => ?_) ?_
    | (refine TkE.fL ?_; (conv => whnf); fail_if_success (show forceL _ _))
    | refine TkE.mk _ rfl rfl ?_
    | refine Res.mk ?_
    | refine DsE.mk (limbs _) rfl ?_
    | refine DsE.mk [] rfl ?_
    | refine LoopEnd.go _ _ ⟨.inl rfl, rfl, rfl, by first | rfl | (repeat first | exact all_nil _ | refine all_la _ _ _ _ _ ?_)⟩ ?_
    | ((with_reducible refine EqE.idW ?_); first  | with_reducible refine EqE.mk _ (wrap_u64_u32 _) ?_ | with_reducible refine EqE.mk _ (n_add _ _ (by omega)) ?_ | with_reducible refine EqE.mk _ (n_shl32 _ (by omega)) ?_ | with_reducible refine EqE.mk _ (n_shl _ _ (by omega) (by omega)) ?_ | with_reducible refine EqE.mk _ (n_mul _ _ (by omega)) ?_ | with_reducible refine EqE.mk _ (n_sub _ _ (by omega) (by omega)) ?_ | with_reducible refine EqE.mk _ (n_and1 _ (by omega)) ?_ | with_reducible refine EqE.mk _ (n_andm _ (by omega)) ?_ | with_reducible refine EqE.mk _ (n_and1_32 _ (by omega)) ?_ | with_reducible refine EqE.mk _ (n_and _ _ (by omega) (by omega)) ?_ | with_reducible refine EqE.mk _ (n_or _ _ (by omega) (by omega)) ?_ | refine EqE.mk _ (n_quo _ 32 (by omega)) ?_ | with_reducible refine EqE.mk _ (n_u32 _) ?_ | with_reducible refine EqE.mk _ (n_u8 _) ?_ | with_reducible refine EqE.mk _ (n_u64 _ (by omega)) ?_ | with_reducible refine EqE.mk _ (n_i64 _ (by omega)) ?_ | with_reducible refine EqE.mk _ (n_succ _ (by omega)) ?_ | with_reducible refine EqE.mk _ (n_iadd _ _ (by omega)) ?_ | with_reducible refine EqE.mk _ (wrap_u64 (by omega) (by omega)) ?_ | with_reducible refine EqE.mk _ (wrap_u32 _) ?_ | with_reducible refine EqE.mk _ (wrap_in (by omega) (by omega)) ?_ | refine EqE.mk _ rfl ?_)
    | ((with_reducible refine EqE.idF ?_); first  | with_reducible refine EqE.mk _ (n_shr63 _) ?_ | with_reducible refine EqE.mk _ (n_shrv _ _ (by omega)) ?_ | with_reducible refine EqE.mk _ (n_shrv32 _ _ (by omega)) ?_ | with_reducible refine EqE.mk _ (n_shr1_32 _) ?_ | refine EqE.mk _ (n_shr _ 4294967296 _ _ rfl) ?_ | refine EqE.mk _ (n_shr _ 65536 _ _ rfl) ?_ | refine EqE.mk _ (n_shr _ 256 _ _ rfl) ?_ | refine EqE.mk _ (n_shr _ 134217728 _ _ rfl) ?_ | refine EqE.mk _ (n_shr _ 2 _ _ rfl) ?_ | refine EqE.mk _ (n_shr _ 16 _ _ rfl) ?_ | refine EqE.mk _ rfl ?_)
    | ((with_reducible refine EqE.idM ?_); first  | refine EqE.mk _ (n_rem _ 32) ?_ | refine EqE.mk _ (n_rem _ _) ?_ | refine EqE.mk _ rfl ?_)
    | ((with_reducible refine EqE.idI ?_); first  | refine EqE.mk _ (max0 _) ?_ | with_reducible refine EqE.mk _ (max_nat _ _) ?_ | refine EqE.mk _ (max_eq _ _) ?_ | refine EqE.mk _ (min_eq _ _) ?_)
    | ((with_reducible refine EqE.idS ?_); first  | refine EqE.mk _ (la_setN _ _ _ _ (by first | with_reducible exact own_ix _ | with_reducible exact own_ixI _ | exact own_ix _ | exact own_ixI _ | rfl) (by first | omega | (simp only [List.length_set]; omega)) (by omega)) ?_ | refine EqE.mk _ (la_set _ _ _ _ (by first | with_reducible exact own_ix _ | with_reducible exact own_ixI _ | exact own_ix _ | exact own_ixI _ | rfl) (by omega) (by omega) (by omega)) ?_ | (refine EqE.fL ?_; (conv => whnf); fail_if_success (show forceL _ _)) | refine EqE.mk _ rfl ?_)
    | ((with_reducible refine EqE.idA ?_); first | refine EqE.mk _ (la_app0 _) ?_ | refine EqE.mk _ (la_app _ _) ?_ | refine EqE.mk _ rfl ?_)
    | ((with_reducible refine EqE.idR ?_); first | refine EqE.mk _ (la_rep _) ?_ | refine EqE.mk _ rfl ?_)
    | ((with_reducible refine EqE.idL ?_); first  | refine EqE.mk _ (sl_own _ _ _ _ (by omega) (by omega) rfl) ?_ | refine EqE.mk _ (sl_sliceN _ _ (by omega)) ?_ | refine EqE.mk _ (sl_slice _ _ _ (by omega) (by omega) (by omega)) ?_ | refine EqE.mk _ rfl ?_)
    | refine EqE.mk _ rfl ?_
    | refine Cd.mk (Nat.le_of_ble_eq_true rfl) ?_
    | refine Cd.mk ⟨rfl, rfl⟩ ?_
    | refine Cd.mk (limbs_one _) ?_
    | refine Cd.mk (by (try dsimp only); (try simp only [length_limbs, length_la, Nat.mul_one, List.length_set, List.length_take, List.length_drop, List.length_replicate]); (try omega); done) ?_
    | refine Cd.mk ?_ ?_)
  refine ⟨[], [5,6,7], [], fun m xs h => ∃ (i : Nat), m = a.length - i ∧ i ≤ a.length ∧ nv (a.take i) = 0 ∧
    xs = [.d (sl a), .d (.int .i64 a.length), .d (.int .i64 i)] ∧ h = [],
    ⟨_, _, _, ⟨.inl rfl, rfl, rfl, by first | rfl | (repeat first | exact all_nil _ | refine all_la _ _ _ _ _ ?_)⟩, 0, rfl, by omega, rfl, rfl, rfl⟩, ?_⟩
  rintro m xs h ⟨i, rfl, hi, hv, rfl, rfl⟩
  repeat' ((conv => whnf); first
    | with_reducible refine CallX.data ?_
    | refine CallE.mk _ _ (tz32_sim _ (by omega)) ?_
    | refine Cd.mk (show regOk _ _ _ _ = true by kernel_rfl) ?_
    | refine Cd.mk rfl ?_
    | refine Br.t ?_
    | refine Br.f ?_
    | with_reducible refine Br.dec (fun _ => ?_) (fun _ => ?_)
    | with_reducible refine Br.ndec (fun _ => ?_) (fun _ => ?_)
    | refine Br.mk (fun _ => ?_) (fun _ => ?_)
    | refine NthE.mk _ (limbs_dropN _ _ (by omega)) ?_
    | refine NthE.mk _ (limbs_drop _ _ (by omega)) ?_
    | refine NthE.mk _ (la_get _ _ _ (by first | with_reducible exact own_ix _ | with_reducible exact own_ixI _ | exact own_ix _ | exact own_ixI _ | rfl) (by first | omega | (simp only [List.length_set]; omega))) ?_
    | refine NthE.mk _ rfl ?_
    | refine And.intro (fun _ => ?_) ?_
    | (refine TkE.fL ?_; (conv => whnf); fail_if_success (show forceL _ _))
    | refine TkE.mk _ rfl rfl ?_
    | refine Res.mk ?_
    | refine DsE.mk (limbs _) rfl ?_
    | refine DsE.mk [] rfl ?_
    | refine LoopEnd.go _ _ ⟨.inl rfl, rfl, rfl, by first | rfl | (repeat first | exact all_nil _ | refine all_la _ _ _ _ _ ?_)⟩ ?_
    | ((with_reducible refine EqE.idW ?_); first  | with_reducible refine EqE.mk _ (wrap_u64_u32 _) ?_ | with_reducible refine EqE.mk _ (n_add _ _ (by omega)) ?_ | with_reducible refine EqE.mk _ (n_shl32 _ (by omega)) ?_ | with_reducible refine EqE.mk _ (n_shl _ _ (by omega) (by omega)) ?_ | with_reducible refine EqE.mk _ (n_mul _ _ (by omega)) ?_ | with_reducible refine EqE.mk _ (n_sub _ _ (by omega) (by omega)) ?_ | with_reducible refine EqE.mk _ (n_and1 _ (by omega)) ?_ | with_reducible refine EqE.mk _ (n_andm _ (by omega)) ?_ | with_reducible refine EqE.mk _ (n_and1_32 _ (by omega)) ?_ | with_reducible refine EqE.mk _ (n_and _ _ (by omega) (by omega)) ?_ | with_reducible refine EqE.mk _ (n_or _ _ (by omega) (by omega)) ?_ | refine EqE.mk _ (n_quo _ 32 (by omega)) ?_ | with_reducible refine EqE.mk _ (n_u32 _) ?_ | with_reducible refine EqE.mk _ (n_u8 _) ?_ | with_reducible refine EqE.mk _ (n_u64 _ (by omega)) ?_ | with_reducible refine EqE.mk _ (n_i64 _ (by omega)) ?_ | with_reducible refine EqE.mk _ (n_succ _ (by omega)) ?_ | with_reducible refine EqE.mk _ (n_iadd _ _ (by omega)) ?_ | with_reducible refine EqE.mk _ (wrap_u64 (by omega) (by omega)) ?_ | with_reducible refine EqE.mk _ (wrap_u32 _) ?_ | with_reducible refine EqE.mk _ (wrap_in (by omega) (by omega)) ?_ | refine EqE.mk _ rfl ?_)
    | ((with_reducible refine EqE.idF ?_); first  | with_reducible refine EqE.mk _ (n_shr63 _) ?_ | with_reducible refine EqE.mk _ (n_shrv _ _ (by omega)) ?_ | with_reducible refine EqE.mk _ (n_shrv32 _ _ (by omega)) ?_ | with_reducible refine EqE.mk _ (n_shr1_32 _) ?_ | refine EqE.mk _ (n_shr _ 4294967296 _ _ rfl) ?_ | refine EqE.mk _ (n_shr _ 65536 _ _ rfl) ?_ | refine EqE.mk _ (n_shr _ 256 _ _ rfl) ?_ | refine EqE.mk _ (n_shr _ 134217728 _ _ rfl) ?_ | refine EqE.mk _ (n_shr _ 2 _ _ rfl) ?_ | refine EqE.mk _ (n_shr _ 16 _ _ rfl) ?_ | refine EqE.mk _ rfl ?_)
    | ((with_reducible refine EqE.idM ?_); first  | refine EqE.mk _ (n_rem _ 32) ?_ | refine EqE.mk _ (n_rem _ _) ?_ | refine EqE.mk _ rfl ?_)
    | ((with_reducible refine EqE.idI ?_); first  | refine EqE.mk _ (max0 _) ?_ | with_reducible refine EqE.mk _ (max_nat _ _) ?_ | refine EqE.mk _ (max_eq _ _) ?_ | refine EqE.mk _ (min_eq _ _) ?_)
    | ((with_reducible refine EqE.idS ?_); first  | refine EqE.mk _ (la_setN _ _ _ _ (by first | with_reducible exact own_ix _ | with_reducible exact own_ixI _ | exact own_ix _ | exact own_ixI _ | rfl) (by first | omega | (simp only [List.length_set]; omega)) (by omega)) ?_ | refine EqE.mk _ (la_set _ _ _ _ (by first | with_reducible exact own_ix _ | with_reducible exact own_ixI _ | exact own_ix _ | exact own_ixI _ | rfl) (by omega) (by omega) (by omega)) ?_ | (refine EqE.fL ?_; (conv => whnf); fail_if_success (show forceL _ _)) | refine EqE.mk _ rfl ?_)
    | ((with_reducible refine EqE.idA ?_); first | refine EqE.mk _ (la_app0 _) ?_ | refine EqE.mk _ (la_app _ _) ?_ | refine EqE.mk _ rfl ?_)
    | ((with_reducible refine EqE.idR ?_); first | refine EqE.mk _ (la_rep _) ?_ | refine EqE.mk _ rfl ?_)
    | ((with_reducible refine EqE.idL ?_); first  | refine EqE.mk _ (sl_own _ _ _ _ (by omega) (by omega) rfl) ?_ | refine EqE.mk _ (sl_sliceN _ _ (by omega)) ?_ | refine EqE.mk _ (sl_slice _ _ _ (by omega) (by omega) (by omega)) ?_ | refine EqE.mk _ rfl ?_)
    | refine EqE.mk _ rfl ?_
    | refine Cd.mk (Nat.le_of_ble_eq_true rfl) ?_
    | refine Cd.mk ⟨rfl, rfl⟩ ?_
    | refine Cd.mk (limbs_one _) ?_
    | refine Cd.mk (by (try dsimp only); (try simp only [length_limbs, length_la, Nat.mul_one, List.length_set, List.length_take, List.length_drop, List.length_replicate]); (try omega); done) ?_
    | refine Cd.mk ?_ ?_)
  · rename_i h1 h2
    have h3 := u32_lt (a.getD i 0)
    have h4 : (a.getD i 0).toNat ≠ 0 := by omega
    have h5 := tzn_lt (k := 32) h4 h3
    have h6 := nv_take_drop a i hi
    rw [hv, Nat.zero_add, nv_drop' a i, Pw_two] at h6
    have h7 : (a.getD i 0).toNat + 4294967296 * nv (a.drop (i + 1)) ≠ 0 := by omega
    have h8 := tzn_add (k := 32) (b := nv (a.drop (i + 1))) h4 h3
    show D.int _ _ = D.int _ _
    rw [wrap_in (by omega) (by omega), h6, tzn_shift _ h7]
    congr 1
    have h9 : tzn ((a.getD i 0).toNat + 4294967296 * nv (a.drop (i + 1))) = tzn (a.getD i 0).toNat := h8
    rw [h9]; omega
  · rename_i h1 h2
    refine ⟨_, ⟨i + 1, rfl, by omega, ?_, rfl, rfl⟩, by omega⟩
    rw [nv_take_succ', hv, show (a.getD i 0).toNat = 0 by omega]; rfl
  · rename_i h1
    rw [List.take_of_length_le (by omega)] at hv
    exact absurd hv h0
end Go.Ev.Ar
