/- Contracts of the given functions, on data. Conditions stand in each theorem. -/
import Derived.Test.YtmgbegcamhkblaaDoorArTab
import Derived.Test.YtmgbegcamhkblaaDoorEvX
set_option linter.unusedSimpArgs false
set_option linter.unusedVariables false
namespace Go.Ev.Ar
open Go Go.Ev Go.Proofs
/-- What lies in the variables. -/
abbrev G0 : Glob := fun | 0 => deBD | _ => []

def at_ (l : List UInt32) (i : Int) : Nat := if 0 ≤ i then (l.getD i.toNat 0).toNat else 0
theorem at_lt (l : List UInt32) (i : Int) : at_ l i < 4294967296 := by unfold at_; split <;> first | exact u32_lt _ | decide
theorem at_nat (l : List UInt32) (i : Nat) : at_ l i = (l.getD i 0).toNat := by unfold at_; simp

theorem at_sim (l : List UInt32) (i : Int) : Sim Tryd.prog G0 true 193 [sl l, .int .i64 i] (.int .u64 (at_ l i)) := by
  refine sim_mk tab_ok Tryd.func193 rfl (by kernel_rfl) rfl ⟨Nat.le_of_ble_eq_true rfl, Nat.le_of_ble_eq_true rfl⟩ ?_
  repeat' ((conv => whnf); first
    | with_reducible refine CallX.data ?_
    | refine Cd.mk (show regOk _ _ _ _ = true by kernel_rfl) ?_
    | refine Cd.mk rfl ?_
    | refine Br.t ?_
    | refine Br.f ?_
    | with_reducible refine Br.dec (fun _ => ?_) (fun _ => ?_)
    | with_reducible refine Br.ndec (fun _ => ?_) (fun _ => ?_)
    | refine Br.mk (fun _ => ?_) (fun _ => ?_)
    | refine NthE.mk _ (limbs_dropN _ _ (by omega)) ?_
    | refine NthE.mk _ (limbs_drop _ _ (by omega)) ?_
    | refine NthE.mk _ (la_get _ _ _ (by first | with_reducible exact own_ix _ | with_reducible exact own_ixI _ | exact own_ix _ | exact own_ixI _ | rfl) (by first | omega | (simp only [List.length_set]; omega))) ?_
    | refine NthE.mk _ rfl ?_
    | refine And.intro (fun _ => ?_) ?_
    | (refine TkE.fL ?_; (conv => whnf); fail_if_success (show forceL _ _))
    | refine TkE.mk _ rfl rfl ?_
    | refine Res.mk ?_
    | refine DsE.mk (limbs _) rfl ?_
    | refine DsE.mk [] rfl ?_
    | refine LoopEnd.go _ _ ⟨.inl rfl, rfl, rfl, by first | rfl | (repeat first | exact all_nil _ | refine all_la _ _ _ _ _ ?_)⟩ ?_
    | ((with_reducible refine EqE.idW ?_); first  | with_reducible refine EqE.mk _ (wrap_u64_u32 _) ?_ | with_reducible refine EqE.mk _ (n_add _ _ (by omega)) ?_ | with_reducible refine EqE.mk _ (n_shl32 _ (by omega)) ?_ | with_reducible refine EqE.mk _ (n_shl _ _ (by omega) (by omega)) ?_ | with_reducible refine EqE.mk _ (n_mul _ _ (by omega)) ?_ | with_reducible refine EqE.mk _ (n_sub _ _ (by omega) (by omega)) ?_ | with_reducible refine EqE.mk _ (n_and1 _ (by omega)) ?_ | with_reducible refine EqE.mk _ (n_andm _ (by omega)) ?_ | with_reducible refine EqE.mk _ (n_and1_32 _ (by omega)) ?_ | with_reducible refine EqE.mk _ (n_and _ _ (by omega) (by omega)) ?_ | with_reducible refine EqE.mk _ (n_or _ _ (by omega) (by omega)) ?_ | refine EqE.mk _ (n_quo _ 32 (by omega)) ?_ | with_reducible refine EqE.mk _ (n_u32 _) ?_ | with_reducible refine EqE.mk _ (n_u8 _) ?_ | with_reducible refine EqE.mk _ (n_u64 _ (by omega)) ?_ | with_reducible refine EqE.mk _ (n_i64 _ (by omega)) ?_ | with_reducible refine EqE.mk _ (n_succ _ (by omega)) ?_ | with_reducible refine EqE.mk _ (n_iadd _ _ (by omega)) ?_ | with_reducible refine EqE.mk _ (wrap_u64 (by omega) (by omega)) ?_ | with_reducible refine EqE.mk _ (wrap_u32 _) ?_ | with_reducible refine EqE.mk _ (wrap_in (by omega) (by omega)) ?_ | refine EqE.mk _ rfl ?_)
    | ((with_reducible refine EqE.idF ?_); first  | with_reducible refine EqE.mk _ (n_shr63 _) ?_ | with_reducible refine EqE.mk _ (n_shrv _ _ (by omega)) ?_ | with_reducible refine EqE.mk _ (n_shrv32 _ _ (by omega)) ?_ | with_reducible refine EqE.mk _ (n_shr1_32 _) ?_ | refine EqE.mk _ (n_shr _ 4294967296 _ _ rfl) ?_ | refine EqE.mk _ (n_shr _ 65536 _ _ rfl) ?_ | refine EqE.mk _ (n_shr _ 256 _ _ rfl) ?_ | refine EqE.mk _ (n_shr _ 134217728 _ _ rfl) ?_ | refine EqE.mk _ (n_shr _ 2 _ _ rfl) ?_ | refine EqE.mk _ (n_shr _ 16 _ _ rfl) ?_ | refine EqE.mk _ rfl ?_)
    | ((with_reducible refine EqE.idM ?_); first  | refine EqE.mk _ (n_rem _ 32) ?_ | refine EqE.mk _ (n_rem _ _) ?_ | refine EqE.mk _ rfl ?_)
    | ((with_reducible refine EqE.idI ?_); first  | refine EqE.mk _ (max0 _) ?_ | with_reducible refine EqE.mk _ (max_nat _ _) ?_ | refine EqE.mk _ (max_eq _ _) ?_ | refine EqE.mk _ (min_eq _ _) ?_)
    | ((with_reducible refine EqE.idS ?_); first  | refine EqE.mk _ (la_setN _ _ _ _ (by first | with_reducible exact own_ix _ | with_reducible exact own_ixI _ | exact own_ix _ | exact own_ixI _ | rfl) (by first | omega | (simp only [List.length_set]; omega)) (by omega)) ?_ | refine EqE.mk _ (la_set _ _ _ _ (by first | with_reducible exact own_ix _ | with_reducible exact own_ixI _ | exact own_ix _ | exact own_ixI _ | rfl) (by omega) (by omega) (by omega)) ?_ | (refine EqE.fL ?_; (conv => whnf); fail_if_success (show forceL _ _)) | refine EqE.mk _ rfl ?_)
    | ((with_reducible refine EqE.idA ?_); first | refine EqE.mk _ (la_app0 _) ?_ | refine EqE.mk _ (la_app _ _) ?_ | refine EqE.mk _ rfl ?_)
    | ((with_reducible refine EqE.idR ?_); first | refine EqE.mk _ (la_rep _) ?_ | refine EqE.mk _ rfl ?_)
    | ((with_reducible refine EqE.idL ?_); first  | refine EqE.mk _ (sl_own _ _ _ _ (by omega) (by omega) rfl) ?_ | refine EqE.mk _ (sl_sliceN _ _ (by omega)) ?_ | refine EqE.mk _ (sl_slice _ _ _ (by omega) (by omega) (by omega)) ?_ | refine EqE.mk _ rfl ?_)
    | refine EqE.mk _ rfl ?_
    | refine Cd.mk (Nat.le_of_ble_eq_true rfl) ?_
    | refine Cd.mk ⟨rfl, rfl⟩ ?_
    | refine Cd.mk (limbs_one _) ?_
    | refine Cd.mk (by (try dsimp only); (try simp only [length_limbs, length_la, Nat.mul_one, List.length_set, List.length_take, List.length_drop, List.length_replicate]); (try omega); done) ?_
    | refine Cd.mk ?_ ?_)
  · show _ = D.int _ _; unfold at_; rw [if_neg (by omega)]; rfl
  · show _ = D.int _ _; unfold at_; rw [if_pos (by omega), getD_big (by omega)]; rfl
  · show _ = D.int _ _; unfold at_; rw [if_pos (by omega)]

theorem cut_sim (l : List UInt32) (hl : l.length < 2^40) : Sim Tryd.prog G0 false 175 [sl l] (sl (ofN (nv l))) := by
  refine sim_mk tab_ok Tryd.func175 rfl (by kernel_rfl) rfl ⟨Nat.le_of_ble_eq_true rfl, Nat.le_of_ble_eq_true rfl⟩ ?_
  repeat' ((conv => whnf); first
    | with_reducible refine CallX.data ?_
    | refine Cd.mk (show regOk _ _ _ _ = true by kernel_rfl) ?_
    | refine Cd.mk rfl ?_
    | refine Br.t ?_
    | refine Br.f ?_
    | with_reducible refine Br.dec (fun _ => ?_) (fun _ => ?_)
    | with_reducible refine Br.ndec (fun _ => ?_) (fun _ => ?_)
    | refine Br.mk (fun _ => ?_) (fun _ => ?_)
    | refine NthE.mk _ (limbs_dropN _ _ (by omega)) ?_
    | refine NthE.mk _ (limbs_drop _ _ (by omega)) ?_
    | refine NthE.mk _ (la_get _ _ _ (by first | with_reducible exact own_ix _ | with_reducible exact own_ixI _ | exact own_ix _ | exact own_ixI _ | rfl) (by first | omega | (simp only [List.length_set]; omega))) ?_
    | refine NthE.mk _ rfl ?_
    | refine And.intro (fun _ => ?_) ?_
    | (refine TkE.fL ?_; (conv => whnf); fail_if_success (show forceL _ _))
    | refine TkE.mk _ rfl rfl ?_
    | refine Res.mk ?_
    | refine DsE.mk (limbs _) rfl ?_
    | refine DsE.mk [] rfl ?_
    | refine LoopEnd.go _ _ ⟨.inl rfl, rfl, rfl, by first | rfl | (repeat first | exact all_nil _ | refine all_la _ _ _ _ _ ?_)⟩ ?_
    | ((with_reducible refine EqE.idW ?_); first  | with_reducible refine EqE.mk _ (wrap_u64_u32 _) ?_ | with_reducible refine EqE.mk _ (n_add _ _ (by omega)) ?_ | with_reducible refine EqE.mk _ (n_shl32 _ (by omega)) ?_ | with_reducible refine EqE.mk _ (n_shl _ _ (by omega) (by omega)) ?_ | with_reducible refine EqE.mk _ (n_mul _ _ (by omega)) ?_ | with_reducible refine EqE.mk _ (n_sub _ _ (by omega) (by omega)) ?_ | with_reducible refine EqE.mk _ (n_and1 _ (by omega)) ?_ | with_reducible refine EqE.mk _ (n_andm _ (by omega)) ?_ | with_reducible refine EqE.mk _ (n_and1_32 _ (by omega)) ?_ | with_reducible refine EqE.mk _ (n_and _ _ (by omega) (by omega)) ?_ | with_reducible refine EqE.mk _ (n_or _ _ (by omega) (by omega)) ?_ | refine EqE.mk _ (n_quo _ 32 (by omega)) ?_ | with_reducible refine EqE.mk _ (n_u32 _) ?_ | with_reducible refine EqE.mk _ (n_u8 _) ?_ | with_reducible refine EqE.mk _ (n_u64 _ (by omega)) ?_ | with_reducible refine EqE.mk _ (n_i64 _ (by omega)) ?_ | with_reducible refine EqE.mk _ (n_succ _ (by omega)) ?_ | with_reducible refine EqE.mk _ (n_iadd _ _ (by omega)) ?_ | with_reducible refine EqE.mk _ (wrap_u64 (by omega) (by omega)) ?_ | with_reducible refine EqE.mk _ (wrap_u32 _) ?_ | with_reducible refine EqE.mk _ (wrap_in (by omega) (by omega)) ?_ | refine EqE.mk _ rfl ?_)
    | ((with_reducible refine EqE.idF ?_); first  | with_reducible refine EqE.mk _ (n_shr63 _) ?_ | with_reducible refine EqE.mk _ (n_shrv _ _ (by omega)) ?_ | with_reducible refine EqE.mk _ (n_shrv32 _ _ (by omega)) ?_ | with_reducible refine EqE.mk _ (n_shr1_32 _) ?_ | refine EqE.mk _ (n_shr _ 4294967296 _ _ rfl) ?_ | refine EqE.mk _ (n_shr _ 65536 _ _ rfl) ?_ | refine EqE.mk _ (n_shr _ 256 _ _ rfl) ?_ | refine EqE.mk _ (n_shr _ 134217728 _ _ rfl) ?_ | refine EqE.mk _ (n_shr _ 2 _ _ rfl) ?_ | refine EqE.mk _ (n_shr _ 16 _ _ rfl) ?_ | refine EqE.mk _ rfl ?_)
    | ((with_reducible refine EqE.idM ?_); first  | refine EqE.mk _ (n_rem _ 32) ?_ | refine EqE.mk _ (n_rem _ _) ?_ | refine EqE.mk _ rfl ?_)
    | ((with_reducible refine EqE.idI ?_); first  | refine EqE.mk _ (max0 _) ?_ | with_reducible refine EqE.mk _ (max_nat _ _) ?_ | refine EqE.mk _ (max_eq _ _) ?_ | refine EqE.mk _ (min_eq _ _) ?_)
    | ((with_reducible refine EqE.idS ?_); first  | refine EqE.mk _ (la_setN _ _ _ _ (by first | with_reducible exact own_ix _ | with_reducible exact own_ixI _ | exact own_ix _ | exact own_ixI _ | rfl) (by first | omega | (simp only [List.length_set]; omega)) (by omega)) ?_ | refine EqE.mk _ (la_set _ _ _ _ (by first | with_reducible exact own_ix _ | with_reducible exact own_ixI _ | exact own_ix _ | exact own_ixI _ | rfl) (by omega) (by omega) (by omega)) ?_ | (refine EqE.fL ?_; (conv => whnf); fail_if_success (show forceL _ _)) | refine EqE.mk _ rfl ?_)
    | ((with_reducible refine EqE.idA ?_); first | refine EqE.mk _ (la_app0 _) ?_ | refine EqE.mk _ (la_app _ _) ?_ | refine EqE.mk _ rfl ?_)
    | ((with_reducible refine EqE.idR ?_); first | refine EqE.mk _ (la_rep _) ?_ | refine EqE.mk _ rfl ?_)
    | ((with_reducible refine EqE.idL ?_); first  | refine EqE.mk _ (sl_own _ _ _ _ (by omega) (by omega) rfl) ?_ | refine EqE.mk _ (sl_sliceN _ _ (by omega)) ?_ | refine EqE.mk _ (sl_slice _ _ _ (by omega) (by omega) (by omega)) ?_ | refine EqE.mk _ rfl ?_)
    | refine EqE.mk _ rfl ?_
    | refine Cd.mk (Nat.le_of_ble_eq_true rfl) ?_
    | refine Cd.mk ⟨rfl, rfl⟩ ?_
    | refine Cd.mk (limbs_one _) ?_
    | refine Cd.mk (by (try dsimp only); (try simp only [length_limbs, length_la, Nat.mul_one, List.length_set, List.length_take, List.length_drop, List.length_replicate]); (try omega); done) ?_
    | refine Cd.mk ?_ ?_)
  refine ⟨[], [0], [], fun m xs h => ∃ l' : List UInt32, m = l'.length ∧ m ≤ l.length ∧ nv l' = nv l ∧ xs = [.d (sl l')] ∧ h = [], ⟨_, _, _, ⟨.inl rfl, rfl, rfl, rfl⟩, l, rfl, Nat.le_refl _, rfl, rfl, rfl⟩, ?_⟩
  rintro m xs h ⟨l', rfl, hle, hcut, rfl, rfl⟩
  repeat' ((conv => whnf); first
    | with_reducible refine CallX.data ?_
    | refine Cd.mk (show regOk _ _ _ _ = true by kernel_rfl) ?_
    | refine Cd.mk rfl ?_
    | refine Br.t ?_
    | refine Br.f ?_
    | with_reducible refine Br.dec (fun _ => ?_) (fun _ => ?_)
    | with_reducible refine Br.ndec (fun _ => ?_) (fun _ => ?_)
    | refine Br.mk (fun _ => ?_) (fun _ => ?_)
    | refine NthE.mk _ (limbs_dropN _ _ (by omega)) ?_
    | refine NthE.mk _ (limbs_drop _ _ (by omega)) ?_
    | refine NthE.mk _ (la_get _ _ _ (by first | with_reducible exact own_ix _ | with_reducible exact own_ixI _ | exact own_ix _ | exact own_ixI _ | rfl) (by first | omega | (simp only [List.length_set]; omega))) ?_
    | refine NthE.mk _ rfl ?_
    | refine And.intro (fun _ => ?_) ?_
    | (refine TkE.fL ?_; (conv => whnf); fail_if_success (show forceL _ _))
    | refine TkE.mk _ rfl rfl ?_
    | refine Res.mk ?_
    | refine DsE.mk (limbs _) rfl ?_
    | refine DsE.mk [] rfl ?_
    | refine LoopEnd.go _ _ ⟨.inl rfl, rfl, rfl, by first | rfl | (repeat first | exact all_nil _ | refine all_la _ _ _ _ _ ?_)⟩ ?_
    | ((with_reducible refine EqE.idW ?_); first  | with_reducible refine EqE.mk _ (wrap_u64_u32 _) ?_ | with_reducible refine EqE.mk _ (n_add _ _ (by omega)) ?_ | with_reducible refine EqE.mk _ (n_shl32 _ (by omega)) ?_ | with_reducible refine EqE.mk _ (n_shl _ _ (by omega) (by omega)) ?_ | with_reducible refine EqE.mk _ (n_mul _ _ (by omega)) ?_ | with_reducible refine EqE.mk _ (n_sub _ _ (by omega) (by omega)) ?_ | with_reducible refine EqE.mk _ (n_and1 _ (by omega)) ?_ | with_reducible refine EqE.mk _ (n_andm _ (by omega)) ?_ | with_reducible refine EqE.mk _ (n_and1_32 _ (by omega)) ?_ | with_reducible refine EqE.mk _ (n_and _ _ (by omega) (by omega)) ?_ | with_reducible refine EqE.mk _ (n_or _ _ (by omega) (by omega)) ?_ | refine EqE.mk _ (n_quo _ 32 (by omega)) ?_ | with_reducible refine EqE.mk _ (n_u32 _) ?_ | with_reducible refine EqE.mk _ (n_u8 _) ?_ | with_reducible refine EqE.mk _ (n_u64 _ (by omega)) ?_ | with_reducible refine EqE.mk _ (n_i64 _ (by omega)) ?_ | with_reducible refine EqE.mk _ (n_succ _ (by omega)) ?_ | with_reducible refine EqE.mk _ (n_iadd _ _ (by omega)) ?_ | with_reducible refine EqE.mk _ (wrap_u64 (by omega) (by omega)) ?_ | with_reducible refine EqE.mk _ (wrap_u32 _) ?_ | with_reducible refine EqE.mk _ (wrap_in (by omega) (by omega)) ?_ | refine EqE.mk _ rfl ?_)
    | ((with_reducible refine EqE.idF ?_); first  | with_reducible refine EqE.mk _ (n_shr63 _) ?_ | with_reducible refine EqE.mk _ (n_shrv _ _ (by omega)) ?_ | with_reducible refine EqE.mk _ (n_shrv32 _ _ (by omega)) ?_ | with_reducible refine EqE.mk _ (n_shr1_32 _) ?_ | refine EqE.mk _ (n_shr _ 4294967296 _ _ rfl) ?_ | refine EqE.mk _ (n_shr _ 65536 _ _ rfl) ?_ | refine EqE.mk _ (n_shr _ 256 _ _ rfl) ?_ | refine EqE.mk _ (n_shr _ 134217728 _ _ rfl) ?_ | refine EqE.mk _ (n_shr _ 2 _ _ rfl) ?_ | refine EqE.mk _ (n_shr _ 16 _ _ rfl) ?_ | refine EqE.mk _ rfl ?_)
    | ((with_reducible refine EqE.idM ?_); first  | refine EqE.mk _ (n_rem _ 32) ?_ | refine EqE.mk _ (n_rem _ _) ?_ | refine EqE.mk _ rfl ?_)
    | ((with_reducible refine EqE.idI ?_); first  | refine EqE.mk _ (max0 _) ?_ | with_reducible refine EqE.mk _ (max_nat _ _) ?_ | refine EqE.mk _ (max_eq _ _) ?_ | refine EqE.mk _ (min_eq _ _) ?_)
    | ((with_reducible refine EqE.idS ?_); first  | refine EqE.mk _ (la_setN _ _ _ _ (by first | with_reducible exact own_ix _ | with_reducible exact own_ixI _ | exact own_ix _ | exact own_ixI _ | rfl) (by first | omega | (simp only [List.length_set]; omega)) (by omega)) ?_ | refine EqE.mk _ (la_set _ _ _ _ (by first | with_reducible exact own_ix _ | with_reducible exact own_ixI _ | exact own_ix _ | exact own_ixI _ | rfl) (by omega) (by omega) (by omega)) ?_ | (refine EqE.fL ?_; (conv => whnf); fail_if_success (show forceL _ _)) | refine EqE.mk _ rfl ?_)
    | ((with_reducible refine EqE.idA ?_); first | refine EqE.mk _ (la_app0 _) ?_ | refine EqE.mk _ (la_app _ _) ?_ | refine EqE.mk _ rfl ?_)
    | ((with_reducible refine EqE.idR ?_); first | refine EqE.mk _ (la_rep _) ?_ | refine EqE.mk _ rfl ?_)
    | ((with_reducible refine EqE.idL ?_); first  | refine EqE.mk _ (sl_own _ _ _ _ (by omega) (by omega) rfl) ?_ | refine EqE.mk _ (sl_sliceN _ _ (by omega)) ?_ | refine EqE.mk _ (sl_slice _ _ _ (by omega) (by omega) (by omega)) ?_ | refine EqE.mk _ rfl ?_)
    | refine EqE.mk _ rfl ?_
    | refine Cd.mk (Nat.le_of_ble_eq_true rfl) ?_
    | refine Cd.mk ⟨rfl, rfl⟩ ?_
    | refine Cd.mk (limbs_one _) ?_
    | refine Cd.mk (by (try dsimp only); (try simp only [length_limbs, length_la, Nat.mul_one, List.length_set, List.length_take, List.length_drop, List.length_replicate]); (try omega); done) ?_
    | refine Cd.mk ?_ ?_)
  · rename_i h0 h1
    refine ⟨_, ⟨_, rfl, by simp; omega, ?_, rfl, rfl⟩, by simp; omega⟩
    have e : ((l'.length : Int) - 1).toNat = l'.length - 1 := by omega
    rw [e] at h1
    simp only [Int.sub_zero, e, Int.toNat_zero, List.drop_zero]
    rw [nv_dropTop (by intro e; simp [e] at h0) (by omega), hcut]
  · rename_i h0 h1
    have e : ((l'.length : Int) - 1).toNat = l'.length - 1 := by omega
    show _ = sl l'
    rw [← hcut, ofN_of (.inr (by rw [← e]; omega))]
  · rename_i h0
    show _ = sl l'
    rw [← hcut, ofN_of (.inl (List.eq_nil_of_length_eq_zero (by omega)))]

theorem add_sim (a b : List UInt32) (ha : a.length < 2^30) (hb : b.length < 2^30) : Sim Tryd.prog G0 false 169 [sl a, sl b] (sl (ofN (nv a + nv b))) := by
  refine sim_mk tab_ok Tryd.func169 rfl (by kernel_rfl) rfl ⟨Nat.le_of_ble_eq_true rfl, Nat.le_of_ble_eq_true rfl⟩ ?_
  repeat' ((conv => whnf); first
    | with_reducible refine CallX.data ?_
    | refine Cd.mk (show regOk _ _ _ _ = true by kernel_rfl) ?_
    | refine Cd.mk rfl ?_
    | refine Br.t ?_
    | refine Br.f ?_
    | with_reducible refine Br.dec (fun _ => ?_) (fun _ => ?_)
    | with_reducible refine Br.ndec (fun _ => ?_) (fun _ => ?_)
    | refine Br.mk (fun _ => ?_) (fun _ => ?_)
    | refine NthE.mk _ (limbs_dropN _ _ (by omega)) ?_
    | refine NthE.mk _ (limbs_drop _ _ (by omega)) ?_
    | refine NthE.mk _ (la_get _ _ _ (by first | with_reducible exact own_ix _ | with_reducible exact own_ixI _ | exact own_ix _ | exact own_ixI _ | rfl) (by first | omega | (simp only [List.length_set]; omega))) ?_
    | refine NthE.mk _ rfl ?_
    | refine And.intro (fun _ => ?_) ?_
    | (refine TkE.fL ?_; (conv => whnf); fail_if_success (show forceL _ _))
    | refine TkE.mk _ rfl rfl ?_
    | refine Res.mk ?_
    | refine DsE.mk (limbs _) rfl ?_
    | refine DsE.mk [] rfl ?_
    | refine LoopEnd.go _ _ ⟨.inl rfl, rfl, rfl, by first | rfl | (repeat first | exact all_nil _ | refine all_la _ _ _ _ _ ?_)⟩ ?_
    | ((with_reducible refine EqE.idW ?_); first  | with_reducible refine EqE.mk _ (wrap_u64_u32 _) ?_ | with_reducible refine EqE.mk _ (n_add _ _ (by omega)) ?_ | with_reducible refine EqE.mk _ (n_shl32 _ (by omega)) ?_ | with_reducible refine EqE.mk _ (n_shl _ _ (by omega) (by omega)) ?_ | with_reducible refine EqE.mk _ (n_mul _ _ (by omega)) ?_ | with_reducible refine EqE.mk _ (n_sub _ _ (by omega) (by omega)) ?_ | with_reducible refine EqE.mk _ (n_and1 _ (by omega)) ?_ | with_reducible refine EqE.mk _ (n_andm _ (by omega)) ?_ | with_reducible refine EqE.mk _ (n_and1_32 _ (by omega)) ?_ | with_reducible refine EqE.mk _ (n_and _ _ (by omega) (by omega)) ?_ | with_reducible refine EqE.mk _ (n_or _ _ (by omega) (by omega)) ?_ | refine EqE.mk _ (n_quo _ 32 (by omega)) ?_ | with_reducible refine EqE.mk _ (n_u32 _) ?_ | with_reducible refine EqE.mk _ (n_u8 _) ?_ | with_reducible refine EqE.mk _ (n_u64 _ (by omega)) ?_ | with_reducible refine EqE.mk _ (n_i64 _ (by omega)) ?_ | with_reducible refine EqE.mk _ (n_succ _ (by omega)) ?_ | with_reducible refine EqE.mk _ (n_iadd _ _ (by omega)) ?_ | with_reducible refine EqE.mk _ (wrap_u64 (by omega) (by omega)) ?_ | with_reducible refine EqE.mk _ (wrap_u32 _) ?_ | with_reducible refine EqE.mk _ (wrap_in (by omega) (by omega)) ?_ | refine EqE.mk _ rfl ?_)
    | ((with_reducible refine EqE.idF ?_); first  | with_reducible refine EqE.mk _ (n_shr63 _) ?_ | with_reducible refine EqE.mk _ (n_shrv _ _ (by omega)) ?_ | with_reducible refine EqE.mk _ (n_shrv32 _ _ (by omega)) ?_ | with_reducible refine EqE.mk _ (n_shr1_32 _) ?_ | refine EqE.mk _ (n_shr _ 4294967296 _ _ rfl) ?_ | refine EqE.mk _ (n_shr _ 65536 _ _ rfl) ?_ | refine EqE.mk _ (n_shr _ 256 _ _ rfl) ?_ | refine EqE.mk _ (n_shr _ 134217728 _ _ rfl) ?_ | refine EqE.mk _ (n_shr _ 2 _ _ rfl) ?_ | refine EqE.mk _ (n_shr _ 16 _ _ rfl) ?_ | refine EqE.mk _ rfl ?_)
    | ((with_reducible refine EqE.idM ?_); first  | refine EqE.mk _ (n_rem _ 32) ?_ | refine EqE.mk _ (n_rem _ _) ?_ | refine EqE.mk _ rfl ?_)
    | ((with_reducible refine EqE.idI ?_); first  | refine EqE.mk _ (max0 _) ?_ | with_reducible refine EqE.mk _ (max_nat _ _) ?_ | refine EqE.mk _ (max_eq _ _) ?_ | refine EqE.mk _ (min_eq _ _) ?_)
    | ((with_reducible refine EqE.idS ?_); first  | refine EqE.mk _ (la_setN _ _ _ _ (by first | with_reducible exact own_ix _ | with_reducible exact own_ixI _ | exact own_ix _ | exact own_ixI _ | rfl) (by first | omega | (simp only [List.length_set]; omega)) (by omega)) ?_ | refine EqE.mk _ (la_set _ _ _ _ (by first | with_reducible exact own_ix _ | with_reducible exact own_ixI _ | exact own_ix _ | exact own_ixI _ | rfl) (by omega) (by omega) (by omega)) ?_ | (refine EqE.fL ?_; (conv => whnf); fail_if_success (show forceL _ _)) | refine EqE.mk _ rfl ?_)
    | ((with_reducible refine EqE.idA ?_); first | refine EqE.mk _ (la_app0 _) ?_ | refine EqE.mk _ (la_app _ _) ?_ | refine EqE.mk _ rfl ?_)
    | ((with_reducible refine EqE.idR ?_); first | refine EqE.mk _ (la_rep _) ?_ | refine EqE.mk _ rfl ?_)
    | ((with_reducible refine EqE.idL ?_); first  | refine EqE.mk _ (sl_own _ _ _ _ (by omega) (by omega) rfl) ?_ | refine EqE.mk _ (sl_sliceN _ _ (by omega)) ?_ | refine EqE.mk _ (sl_slice _ _ _ (by omega) (by omega) (by omega)) ?_ | refine EqE.mk _ rfl ?_)
    | refine EqE.mk _ rfl ?_
    | refine Cd.mk (Nat.le_of_ble_eq_true rfl) ?_
    | refine Cd.mk ⟨rfl, rfl⟩ ?_
    | refine Cd.mk (limbs_one _) ?_
    | refine Cd.mk (by (try dsimp only); (try simp only [length_limbs, length_la, Nat.mul_one, List.length_set, List.length_take, List.length_drop, List.length_replicate]); (try omega); done) ?_
    | refine Cd.mk ?_ ?_)
  refine ⟨[], [0,1,5,6,16,17], [14], fun m xs h => ∃ (n i c : Nat) (l : List UInt32), m = n - i ∧ n = max a.length b.length + 1 ∧ i ≤ n ∧ c ≤ 1 ∧ l.length = n ∧ nv l + Pw i * c = nv (a.take i) + nv (b.take i) ∧ (∀ j, i ≤ j → (l.getD j 0).toNat = 0) ∧
    xs = [.d (sl a), .d (sl b), .own 14 0 n 1, .d (.int .u64 c), .d (.int .i64 n), .d (.int .i64 i)] ∧ h = [(14, false, la l)],
    ⟨_, _, _, ⟨.inl rfl, rfl, rfl, by first | rfl | (repeat first | exact all_nil _ | refine all_la _ _ _ _ _ ?_)⟩, _, 0, 0, _, rfl, by omega, by omega, by omega, by simp, by simp [nv_replicate], fun j _ => getD_rep _ _, rfl, rfl⟩, ?_⟩
  rintro m xs h ⟨n, i, c, l, rfl, hn, hi, hc, hl, hv, hz, rfl, rfl⟩
  have hxa := at_lt a i
  have hxb := at_lt b i
  repeat' ((conv => whnf); first
    | with_reducible refine CallX.data ?_
    | refine CallE.mk _ _ (at_sim _ _) ?_
    | refine CallE.mk _ _ (cut_sim _ (by omega)) ?_
    | refine Cd.mk (show regOk _ _ _ _ = true by kernel_rfl) ?_
    | refine Cd.mk rfl ?_
    | refine Br.t ?_
    | refine Br.f ?_
    | with_reducible refine Br.dec (fun _ => ?_) (fun _ => ?_)
    | with_reducible refine Br.ndec (fun _ => ?_) (fun _ => ?_)
    | refine Br.mk (fun _ => ?_) (fun _ => ?_)
    | refine NthE.mk _ (limbs_dropN _ _ (by omega)) ?_
    | refine NthE.mk _ (limbs_drop _ _ (by omega)) ?_
    | refine NthE.mk _ (la_get _ _ _ (by first | with_reducible exact own_ix _ | with_reducible exact own_ixI _ | exact own_ix _ | exact own_ixI _ | rfl) (by first | omega | (simp only [List.length_set]; omega))) ?_
    | refine NthE.mk _ rfl ?_
    | refine And.intro (fun _ => ?_) ?_
    | (refine TkE.fL ?_; (conv => whnf); fail_if_success (show forceL _ _))
    | refine TkE.mk _ rfl rfl ?_
    | refine Res.mk ?_
    | refine DsE.mk (limbs _) rfl ?_
    | refine DsE.mk [] rfl ?_
    | refine LoopEnd.go _ _ ⟨.inl rfl, rfl, rfl, by first | rfl | (repeat first | exact all_nil _ | refine all_la _ _ _ _ _ ?_)⟩ ?_
    | ((with_reducible refine EqE.idW ?_); first  | with_reducible refine EqE.mk _ (wrap_u64_u32 _) ?_ | with_reducible refine EqE.mk _ (n_add _ _ (by omega)) ?_ | with_reducible refine EqE.mk _ (n_shl32 _ (by omega)) ?_ | with_reducible refine EqE.mk _ (n_shl _ _ (by omega) (by omega)) ?_ | with_reducible refine EqE.mk _ (n_mul _ _ (by omega)) ?_ | with_reducible refine EqE.mk _ (n_sub _ _ (by omega) (by omega)) ?_ | with_reducible refine EqE.mk _ (n_and1 _ (by omega)) ?_ | with_reducible refine EqE.mk _ (n_andm _ (by omega)) ?_ | with_reducible refine EqE.mk _ (n_and1_32 _ (by omega)) ?_ | with_reducible refine EqE.mk _ (n_and _ _ (by omega) (by omega)) ?_ | with_reducible refine EqE.mk _ (n_or _ _ (by omega) (by omega)) ?_ | refine EqE.mk _ (n_quo _ 32 (by omega)) ?_ | with_reducible refine EqE.mk _ (n_u32 _) ?_ | with_reducible refine EqE.mk _ (n_u8 _) ?_ | with_reducible refine EqE.mk _ (n_u64 _ (by omega)) ?_ | with_reducible refine EqE.mk _ (n_i64 _ (by omega)) ?_ | with_reducible refine EqE.mk _ (n_succ _ (by omega)) ?_ | with_reducible refine EqE.mk _ (n_iadd _ _ (by omega)) ?_ | with_reducible refine EqE.mk _ (wrap_u64 (by omega) (by omega)) ?_ | with_reducible refine EqE.mk _ (wrap_u32 _) ?_ | with_reducible refine EqE.mk _ (wrap_in (by omega) (by omega)) ?_ | refine EqE.mk _ rfl ?_)
    | ((with_reducible refine EqE.idF ?_); first  | with_reducible refine EqE.mk _ (n_shr63 _) ?_ | with_reducible refine EqE.mk _ (n_shrv _ _ (by omega)) ?_ | with_reducible refine EqE.mk _ (n_shrv32 _ _ (by omega)) ?_ | with_reducible refine EqE.mk _ (n_shr1_32 _) ?_ | refine EqE.mk _ (n_shr _ 4294967296 _ _ rfl) ?_ | refine EqE.mk _ (n_shr _ 65536 _ _ rfl) ?_ | refine EqE.mk _ (n_shr _ 256 _ _ rfl) ?_ | refine EqE.mk _ (n_shr _ 134217728 _ _ rfl) ?_ | refine EqE.mk _ (n_shr _ 2 _ _ rfl) ?_ | refine EqE.mk _ (n_shr _ 16 _ _ rfl) ?_ | refine EqE.mk _ rfl ?_)
    | ((with_reducible refine EqE.idM ?_); first  | refine EqE.mk _ (n_rem _ 32) ?_ | refine EqE.mk _ (n_rem _ _) ?_ | refine EqE.mk _ rfl ?_)
    | ((with_reducible refine EqE.idI ?_); first  | refine EqE.mk _ (max0 _) ?_ | with_reducible refine EqE.mk _ (max_nat _ _) ?_ | refine EqE.mk _ (max_eq _ _) ?_ | refine EqE.mk _ (min_eq _ _) ?_)
    | ((with_reducible refine EqE.idS ?_); first  | refine EqE.mk _ (la_setN _ _ _ _ (by first | with_reducible exact own_ix _ | with_reducible exact own_ixI _ | exact own_ix _ | exact own_ixI _ | rfl) (by first | omega | (simp only [List.length_set]; omega)) (by omega)) ?_ | refine EqE.mk _ (la_set _ _ _ _ (by first | with_reducible exact own_ix _ | with_reducible exact own_ixI _ | exact own_ix _ | exact own_ixI _ | rfl) (by omega) (by omega) (by omega)) ?_ | (refine EqE.fL ?_; (conv => whnf); fail_if_success (show forceL _ _)) | refine EqE.mk _ rfl ?_)
    | ((with_reducible refine EqE.idA ?_); first | refine EqE.mk _ (la_app0 _) ?_ | refine EqE.mk _ (la_app _ _) ?_ | refine EqE.mk _ rfl ?_)
    | ((with_reducible refine EqE.idR ?_); first | refine EqE.mk _ (la_rep _) ?_ | refine EqE.mk _ rfl ?_)
    | ((with_reducible refine EqE.idL ?_); first  | refine EqE.mk _ (sl_own _ _ _ _ (by omega) (by omega) rfl) ?_ | refine EqE.mk _ (sl_sliceN _ _ (by omega)) ?_ | refine EqE.mk _ (sl_slice _ _ _ (by omega) (by omega) (by omega)) ?_ | refine EqE.mk _ rfl ?_)
    | refine EqE.mk _ rfl ?_
    | refine Cd.mk (Nat.le_of_ble_eq_true rfl) ?_
    | refine Cd.mk ⟨rfl, rfl⟩ ?_
    | refine Cd.mk (limbs_one _) ?_
    | refine Cd.mk (by (try dsimp only); (try simp only [length_limbs, length_la, Nat.mul_one, List.length_set, List.length_take, List.length_drop, List.length_replicate]); (try omega); done) ?_
    | refine Cd.mk ?_ ?_)
  · rename_i h0
    refine ⟨_, ⟨n, i + 1, (c + (at_ a i + at_ b i)) / 4294967296, _, rfl, hn, by omega, by omega, ?_, ?_, ?_, rfl, rfl⟩, by omega⟩
    · simp [hl]
    · have hz := hz i (Nat.le_refl _)
      rw [nv_set0 (by omega) hz (by omega), nv_take_succ', nv_take_succ', Pw_succ, Nat.add_assoc, limb_step, at_nat, at_nat, Nat.mul_add, Nat.mul_add]
      omega
    · intro j hj
      rw [getD_set_ne (by omega)]; exact hz j (by omega)
  · rename_i h0
    show _ = sl _
    have e : i = n := by omega
    have h1 := nv_lt a
    have h2 := nv_lt b
    have h3 := Pw_mono (show a.length ≤ n - 1 by omega)
    have h4 := Pw_mono (show b.length ≤ n - 1 by omega)
    have h5 := Pw_succ (n - 1)
    rw [show n - 1 + 1 = n by omega] at h5
    rw [List.take_of_length_le (by omega), List.take_of_length_le (by omega), e] at hv
    have : c = 0 := by
      rcases (show c = 0 ∨ c = 1 by omega) with h | h
      · exact h
      · subst h; omega
    subst this
    rw [← hv]; rfl
end Go.Ev.Ar
