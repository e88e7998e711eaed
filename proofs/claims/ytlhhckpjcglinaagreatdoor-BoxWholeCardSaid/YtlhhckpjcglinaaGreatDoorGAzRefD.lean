/- Contracts of the given functions, on data. Conditions stand in each theorem. -/
import Derived.Test.YtlhhckpjcglinaaGreatDoorGAzRefA
set_option linter.unusedSimpArgs false
set_option linter.unusedVariables false
namespace Go.Ev.Ar
open Go Go.Ev Go.Proofs

theorem rbits_sim (l : List UInt32) (hl : l.length < 2^32) : Sim Tryz.prog G0 true 190 [sl l] (.int .i64 (nb (nv l))) := by
  refine sim_mk tab_ok Tryz.func190 rfl (by kernel_rfl) rfl ⟨Nat.le_of_ble_eq_true rfl, Nat.le_of_ble_eq_true rfl⟩ ?_
  have h := ofN_len_nv l
  repeat' ((conv => whnf); first
    | with_reducible refine CallX.data ?_
    | refine CallE.mk _ _ (rtrim_sim _ (by omega)) ?_
    | refine RegE.early (Cd.mk (show regOk _ _ _ _ = true by kernel_rfl) ?_)
    | refine Cd.mk rfl ?_
    | with_reducible refine Br.dec (fun _ => ?_) (fun _ => ?_)
    | refine NthE.mk _ (limbs_drop _ _ (by omega)) ?_
    | refine Res.mk ?_
    | ((with_reducible refine EqE.idW ?_); with_reducible refine EqE.mk _ (wrap_in (by omega) (by omega)) ?_)
    | refine Cd.mk (by first | omega | (dsimp only; omega) | (simp only [length_limbs, length_la, Nat.mul_one, List.length_set, List.length_take, List.length_drop, List.length_replicate, List.length_append, Int.toNat_natCast]; omega) | (rw [length_la, Nat.mul_one]) | (rw [length_limbs, Nat.mul_one]) | (refine ⟨⟨Int.le_refl _, ?_⟩, ?_⟩ <;> first | omega | (rw [Int.toNat_zero]; omega)) | (simp only [length_limbs, length_la, Nat.mul_one, List.length_set, List.length_take, List.length_drop, List.length_replicate]; exact Nat.le_refl _)) ?_)
  · rename_i h0
    show D.int _ _ = D.int _ _
    rw [ofN_len_zero.1 (show (ofN (nv l)).length = 0 by omega)]; rfl
  rename_i h0
  have hn : nv l ≠ 0 := fun e => h0 (by rw [e, ofN_zero]; rfl)
  have h4 : nb ((ofN (nv l)).getD ((ofN (nv l)).length - 1) 0).toNat ≤ 32 := nb_le.2 (u32_lt _)
  have e : (((ofN (nv l)).length : Int) - 1).toNat = (ofN (nv l)).length - 1 := by omega
  have hu := u32_lt ((ofN (nv l)).getD ((ofN (nv l)).length - 1) 0)
  rw [nb_top hn]
  skip
  rw [e]
  refine ⟨[], [4, 5], [], fun m xs h => ∃ (t : Nat) (c : Int), m = t ∧ t < 4294967296 ∧ c + nb t = 32 * ((ofN (nv l)).length - 1) + nb ((ofN (nv l)).getD ((ofN (nv l)).length - 1) 0).toNat ∧ xs = [.d (.int .i64 c), .d (.int .u32 t)] ∧ h = [],
    ⟨_, _, _, ⟨.inl rfl, rfl, rfl, by first | rfl | (repeat first | exact all_nil _ | refine all_la _ _ _ _ _ ?_)⟩, _, _, rfl, hu, ?_, rfl, rfl⟩, ?_⟩
  · omega
  rintro m xs h ⟨t, c, rfl, ht, hv, rfl, rfl⟩
  have hnb : nb m ≤ 32 := nb_le.2 ht
  repeat' ((conv => whnf); first
    | refine RegE.early (Cd.mk (show regOk _ _ _ _ = true by kernel_rfl) ?_)
    | refine Cd.mk rfl ?_
    | with_reducible refine Br.ndec (fun _ => ?_) (fun _ => ?_)
    | refine Res.mk ?_
    | refine LoopEnd.go _ _ ⟨.inl rfl, rfl, rfl, by first | rfl | (repeat first | exact all_nil _ | refine all_la _ _ _ _ _ ?_)⟩ ?_
    | ((with_reducible refine EqE.idW ?_); with_reducible refine EqE.mk _ (wrap_in (by omega) (by omega)) ?_)
    | ((with_reducible refine EqE.idF ?_); with_reducible refine EqE.mk _ (n_shr1_32 _) ?_)
    | refine Cd.mk (by first | omega | (dsimp only; omega) | (simp only [length_limbs, length_la, Nat.mul_one, List.length_set, List.length_take, List.length_drop, List.length_replicate, List.length_append, Int.toNat_natCast]; omega) | (rw [length_la, Nat.mul_one]) | (rw [length_limbs, Nat.mul_one]) | (refine ⟨⟨Int.le_refl _, ?_⟩, ?_⟩ <;> first | omega | (rw [Int.toNat_zero]; omega)) | (simp only [length_limbs, length_la, Nat.mul_one, List.length_set, List.length_take, List.length_drop, List.length_replicate]; exact Nat.le_refl _)) ?_)
  · rename_i h5
    refine ⟨_, ⟨_, _, rfl, by omega, ?_, rfl, rfl⟩, by omega⟩
    have := nb_half (t := m) (by omega)
    omega
  · rename_i h5
    have e : m = 0 := by omega
    subst e
    show D.int _ _ = D.int _ _
    rw [nb_zero] at hv
    congr 1; omega
theorem rbit_sim (l : List UInt32) (i : Nat) (hl : l.length < 2^32) (hi : i < 2^40) : Sim Tryz.prog G0 true 174 [sl l, .int .i64 i] (.bool ((nv l).testBit i)) := by
  refine sim_mk tab_ok Tryz.func174 rfl (by kernel_rfl) rfl ⟨Nat.le_of_ble_eq_true rfl, Nat.le_of_ble_eq_true rfl⟩ ?_
  have hx := u32_lt (l.getD (i / 32) 0)
  have hx2 := Nat.div_le_self (l.getD (i / 32) 0).toNat (2 ^ (i % 32))
  repeat' ((conv => whnf); first
    | refine RegE.early (Cd.mk (show regOk _ _ _ _ = true by kernel_rfl) ?_)
    | refine Cd.mk rfl ?_
    | refine Br.t ?_
    | refine Br.f ?_
    | with_reducible refine Br.dec (fun _ => ?_) (fun _ => ?_)
    | refine NthE.mk _ (limbs_dropN _ _ (by omega)) ?_
    | refine Res.mk ?_
    | ((with_reducible refine EqE.idW ?_); first | with_reducible refine EqE.mk _ (n_and1_32 _ (by omega)) ?_ | refine EqE.mk _ (n_quo _ 32 (by omega)) ?_ | with_reducible refine EqE.mk _ (n_u64 _ (by omega)) ?_)
    | ((with_reducible refine EqE.idF ?_); with_reducible refine EqE.mk _ (n_shrv32 _ _ (by omega)) ?_)
    | ((with_reducible refine EqE.idM ?_); refine EqE.mk _ (n_rem _ 32) ?_)
    | refine Cd.mk (by first | omega | (dsimp only; omega) | (simp only [length_limbs, length_la, Nat.mul_one, List.length_set, List.length_take, List.length_drop, List.length_replicate, List.length_append, Int.toNat_natCast]; omega) | (rw [length_la, Nat.mul_one]) | (rw [length_limbs, Nat.mul_one]) | (refine ⟨⟨Int.le_refl _, ?_⟩, ?_⟩ <;> first | omega | (rw [Int.toNat_zero]; omega)) | (simp only [length_limbs, length_la, Nat.mul_one, List.length_set, List.length_take, List.length_drop, List.length_replicate]; exact Nat.le_refl _)) ?_)
  · rename_i h0
    show D.bool _ = D.bool _
    rw [testBit_nv]
    congr 1
    rw [Bool.eq_iff_iff, decide_eq_true_iff, decide_eq_true_iff]; omega
  · rename_i h0
    show D.bool _ = D.bool _
    rw [testBit_nv, getD_big (by omega)]
    simp
end Go.Ev.Ar

namespace Go.Ev.Ar
open Go Go.Ev Go.Proofs

set_option maxHeartbeats 1000000 in
theorem rshl_sim (a : List UInt32) (n : Int) (ha : a.length < 2^30) (hn : n ≤ 100000) : Sim Tryz.prog G0 false 192 [sl a, .int .i64 n] (sl (ofN (nv a * 2 ^ n.toNat))) := by
  refine sim_mk tab_ok Tryz.func192 rfl (by kernel_rfl) rfl ⟨Nat.le_of_ble_eq_true rfl, Nat.le_of_ble_eq_true rfl⟩ ?_
  have hN : n.toNat ≤ 100000 := by omega
  have hs : n.toNat % 32 < 32 := Nat.mod_lt _ (by decide)
  repeat' ((conv => whnf); first
    | refine RegE.early (Cd.mk (show regOk _ _ _ _ = true by kernel_rfl) ?_)
    | refine Cd.mk rfl ?_
    | ((with_reducible refine EqE.idW ?_); first | refine EqE.mk _ (n_quo _ 32 (by omega)) ?_ | with_reducible refine EqE.mk _ (n_i64 _ (by omega)) ?_ | with_reducible refine EqE.mk _ (n_succ _ (by omega)) ?_)
    | ((with_reducible refine EqE.idI ?_); first | refine EqE.mk _ (max0r _ hn) ?_ | refine EqE.mk _ (min_eq _ _) ?_)
    | ((with_reducible refine EqE.idR ?_); refine EqE.mk _ (la_rep _) ?_)
    | refine Cd.mk (by first | omega | (dsimp only; omega) | (simp only [length_limbs, length_la, Nat.mul_one, List.length_set, List.length_take, List.length_drop, List.length_replicate, List.length_append, Int.toNat_natCast]; omega) | (rw [length_la, Nat.mul_one]) | (rw [length_limbs, Nat.mul_one]) | (refine ⟨⟨Int.le_refl _, ?_⟩, ?_⟩ <;> first | omega | (rw [Int.toNat_zero]; omega)) | (simp only [length_limbs, length_la, Nat.mul_one, List.length_set, List.length_take, List.length_drop, List.length_replicate]; exact Nat.le_refl _)) ?_)
  generalize n.toNat = N at *
  refine ⟨[], [0,5,6,7], [18], fun m xs h => ∃ (n i : Nat) (l : List UInt32), m = a.length - i ∧ n = a.length + N / 32 + 1 ∧ i ≤ a.length ∧ l.length = n ∧ nv l = Pw (N / 32) * (nv (a.take i) * 2 ^ (N % 32)) ∧ (∀ j, i + N / 32 + 1 ≤ j → (l.getD j 0).toNat = 0) ∧ (l.getD (i + N / 32) 0).toNat < 2 ^ (N % 32) ∧
    xs = [.d (sl a), .d (.int .i64 N), .own 18 0 n 1, .d (.int .i64 i)] ∧ h = [(18, false, la l)],
    ⟨_, _, _, ⟨.inl rfl, rfl, rfl, by first | rfl | (repeat first | exact all_nil _ | refine all_la _ _ _ _ _ ?_)⟩, _, 0, _, rfl, rfl, by omega, List.length_replicate, by simp [nv_replicate], fun j _ => getD_rep _ _, by rw [getD_rep]; exact Nat.two_pow_pos _, rfl, rfl⟩, ?_⟩
  rintro m xs h ⟨n, i, l, rfl, hnn, hi, hl, hv, hz, ho, rfl, rfl⟩
  have hx := u32_lt (a.getD i 0)
  have ho2 := u32_lt (l.getD (i + N / 32) 0)
  have hy := shl_lt hx hs
  have hb := add_shl_lt (x := (a.getD i 0).toNat) hs ho
  repeat' ((conv => whnf); first
    | with_reducible refine CallX.data ?_
    | refine CallE.mk _ _ (rtrim_sim _ (by omega)) ?_
    | refine RegE.early (Cd.mk (show regOk _ _ _ _ = true by kernel_rfl) ?_)
    | refine Cd.mk rfl ?_
    | with_reducible refine Br.dec (fun _ => ?_) (fun _ => ?_)
    | refine NthE.mk _ (limbs_dropN _ _ (by omega)) ?_
    | refine NthE.mk _ (la_get _ _ _ (by first | with_reducible exact own_ix _ | with_reducible exact own_ixI _ | exact own_ix _ | exact own_ixI _ | rfl) (by first | omega | (simp only [List.length_set]; omega))) ?_
    | refine Res.mk ?_
    | refine DsE.mk (limbs _) rfl ?_
    | refine LoopEnd.go _ _ ⟨.inl rfl, rfl, rfl, by first | rfl | (repeat first | exact all_nil _ | refine all_la _ _ _ _ _ ?_)⟩ ?_
    | ((with_reducible refine EqE.idW ?_); first | with_reducible refine EqE.mk _ (n_orshl _ _ _ hs ho ho2) ?_ | with_reducible refine EqE.mk _ (wrap_u64_u32 _) ?_ | with_reducible refine EqE.mk _ (n_shl _ _ (by omega) (by omega)) ?_ | refine EqE.mk _ (n_quo _ 32 (by omega)) ?_ | with_reducible refine EqE.mk _ (n_u32 _) ?_ | with_reducible refine EqE.mk _ (n_u64 _ (by omega)) ?_ | with_reducible refine EqE.mk _ (n_i64 _ (by omega)) ?_ | with_reducible refine EqE.mk _ (n_succ _ (by omega)) ?_)
    | ((with_reducible refine EqE.idF ?_); refine EqE.mk _ (n_shr _ 4294967296 _ _ rfl) ?_)
    | ((with_reducible refine EqE.idM ?_); refine EqE.mk _ (n_rem _ 32) ?_)
    | ((with_reducible refine EqE.idS ?_); refine EqE.mk _ (la_setN _ _ _ _ (by first | with_reducible exact own_ix _ | with_reducible exact own_ixI _ | exact own_ix _ | exact own_ixI _ | rfl) (by first | omega | (simp only [List.length_set]; omega)) (by omega)) ?_)
    | ((with_reducible refine EqE.idL ?_); refine EqE.mk _ (sl_own _ _ _ _ (by omega) (by omega) rfl) ?_)
    | refine Cd.mk (by first | omega | (dsimp only; omega) | (simp only [length_limbs, length_la, Nat.mul_one, List.length_set, List.length_take, List.length_drop, List.length_replicate, List.length_append, Int.toNat_natCast]; omega) | (rw [length_la, Nat.mul_one]) | (rw [length_limbs, Nat.mul_one]) | (refine ⟨⟨Int.le_refl _, ?_⟩, ?_⟩ <;> first | omega | (rw [Int.toNat_zero]; omega)) | (simp only [length_limbs, length_la, Nat.mul_one, List.length_set, List.length_take, List.length_drop, List.length_replicate]; exact Nat.le_refl _)) ?_)
  · rename_i h0
    refine ⟨_, ⟨n, i + 1, _, rfl, hnn, by omega, ?_, ?_, ?_, ?_, rfl, rfl⟩, by omega⟩
    · simp [hl]
    · have h1 := nv_set l (i + N / 32) (UInt32.ofNat ((l.getD (i + N / 32) 0).toNat + (a.getD i 0).toNat * 2 ^ (N % 32) % 4294967296)) (by omega)
      rw [toNat_ofNat hb, Nat.mul_add] at h1
      rw [nv_set0 (by simp; omega) (by rw [getD_set_ne (by omega)]; exact hz _ (by omega)) (by omega), nv_take_succ', Nat.mod_eq_of_lt (show (a.getD i 0).toNat * 2 ^ (N % 32) / 4294967296 < 4294967296 by omega), Pw_succ]
      have h5 := limb_step (Pw (i + N / 32)) ((a.getD i 0).toNat * 2 ^ (N % 32))
      have h6 : Pw (N / 32) * ((nv (a.take i) + Pw i * (a.getD i 0).toNat) * 2 ^ (N % 32)) = Pw (N / 32) * (nv (a.take i) * 2 ^ (N % 32)) + Pw (i + N / 32) * ((a.getD i 0).toNat * 2 ^ (N % 32)) := by
        rw [Pw_add]; grind
      rw [h6]; omega
    · intro j hj
      rw [getD_set_ne (by omega), getD_set_ne (by omega)]; exact hz j (by omega)
    · rw [show i + 1 + N / 32 = i + N / 32 + 1 by omega]
      rw [getD_set_self (by simp; omega), toNat_ofNat (by omega), Nat.mod_eq_of_lt (by omega)]
      exact shl_carry hx hs
  · rename_i h0
    show sl _ = sl _
    rw [List.take_of_length_le (by omega)] at hv
    rw [hv, show Pw (N / 32) * (nv a * 2 ^ (N % 32)) = nv a * (Pw (N / 32) * 2 ^ (N % 32)) by grind, Pw_shift, Nat.div_add_mod]
theorem rshr_sim (a : List UInt32) (n : Int) (ha : a.length < 2^30) (hn : n ≤ 100000) : Sim Tryz.prog G0 false 139 [sl a, .int .i64 n] (sl (ofN (nv a / 2 ^ n.toNat))) := by
  refine sim_mk tab_ok Tryz.func139 rfl (by kernel_rfl) rfl ⟨Nat.le_of_ble_eq_true rfl, Nat.le_of_ble_eq_true rfl⟩ ?_
  have hN : n.toNat ≤ 100000 := by omega
  have hs : n.toNat % 32 < 32 := Nat.mod_lt _ (by decide)
  repeat' ((conv => whnf); first
    | refine RegE.early (Cd.mk (show regOk _ _ _ _ = true by kernel_rfl) ?_)
    | refine Cd.mk rfl ?_
    | with_reducible refine Br.dec (fun _ => ?_) (fun _ => ?_)
    | refine Res.mk ?_
    | ((with_reducible refine EqE.idW ?_); refine EqE.mk _ (n_quo _ 32 (by omega)) ?_)
    | ((with_reducible refine EqE.idI ?_); first | refine EqE.mk _ (max0r _ hn) ?_ | refine EqE.mk _ (min_eq _ _) ?_)
    | ((with_reducible refine EqE.idR ?_); refine EqE.mk _ (la_rep _) ?_)
    | ((with_reducible refine EqE.idL ?_); refine EqE.mk _ (sl_sliceN _ _ (by omega)) ?_)
    | refine Cd.mk (by first | omega | (dsimp only; omega) | (simp only [length_limbs, length_la, Nat.mul_one, List.length_set, List.length_take, List.length_drop, List.length_replicate, List.length_append, Int.toNat_natCast]; omega) | (rw [length_la, Nat.mul_one]) | (rw [length_limbs, Nat.mul_one]) | (refine ⟨⟨Int.le_refl _, ?_⟩, ?_⟩ <;> first | omega | (rw [Int.toNat_zero]; omega)) | (simp only [length_limbs, length_la, Nat.mul_one, List.length_set, List.length_take, List.length_drop, List.length_replicate]; exact Nat.le_refl _)) ?_)
  · rename_i h
    have h2 := nv_lt a
    have : nv a < 2 ^ n.toNat := Nat.lt_of_lt_of_le h2 (by rw [Pw_two]; exact Nat.pow_le_pow_right (by decide) (by omega))
    show sl _ = sl []
    rw [Nat.div_eq_of_lt this, ofN_zero]
  rename_i h
  generalize n.toNat = N at *
  skip
  generalize hM : a.drop (N / 32) = M at *
  refine ⟨[], [5,6,7,8], [23], fun m xs h => ∃ (n i : Nat) (l : List UInt32), m = n - i ∧ n = M.length ∧ i ≤ n ∧ l.length = n ∧ nv l = (nv M / 2 ^ (N % 32)) % Pw i ∧ (∀ j, i ≤ j → (l.getD j 0).toNat = 0) ∧
    xs = [.d (.int .i64 N), .d (sl M), .own 23 0 n 1, .d (.int .i64 i)] ∧ h = [(23, false, la l)],
    ⟨_, _, _, ⟨.inl rfl, rfl, rfl, by first | rfl | (repeat first | exact all_nil _ | refine all_la _ _ _ _ _ ?_)⟩, _, 0, _, rfl, rfl, by omega, List.length_replicate, ?_, fun j _ => getD_rep _ _, rfl, rfl⟩, ?_⟩
  · rw [nv_replicate, Pw_zero, Nat.mod_one]
  rintro m xs h ⟨n, i, l, rfl, hnn, hi, hl, hv, hz, rfl, rfl⟩
  have hx1 := at_lt M (i : Int)
  have hx2 := at_lt M ((i + 1 : Nat) : Int)
  have hM2 : M.length ≤ a.length := by rw [← hM]; simp
  repeat' ((conv => whnf); first
    | with_reducible refine CallX.data ?_
    | refine CallE.mk _ _ (rat_sim _ _) ?_
    | refine CallE.mk _ _ (rtrim_sim _ (by omega)) ?_
    | refine RegE.early (Cd.mk (show regOk _ _ _ _ = true by kernel_rfl) ?_)
    | refine Cd.mk rfl ?_
    | with_reducible refine Br.dec (fun _ => ?_) (fun _ => ?_)
    | refine Res.mk ?_
    | refine DsE.mk (limbs _) rfl ?_
    | refine LoopEnd.go _ _ ⟨.inl rfl, rfl, rfl, by first | rfl | (repeat first | exact all_nil _ | refine all_la _ _ _ _ _ ?_)⟩ ?_
    | ((with_reducible refine EqE.idW ?_); first | with_reducible refine EqE.mk _ (n_shl32 _ (by omega)) ?_ | with_reducible refine EqE.mk _ (n_or _ _ (by omega) (by omega)) ?_ | with_reducible refine EqE.mk _ (n_u32 _) ?_ | with_reducible refine EqE.mk _ (n_u64 _ (by omega)) ?_ | with_reducible refine EqE.mk _ (n_succ _ (by omega)) ?_)
    | ((with_reducible refine EqE.idF ?_); with_reducible refine EqE.mk _ (n_shrv _ _ (by omega)) ?_)
    | ((with_reducible refine EqE.idM ?_); refine EqE.mk _ (n_rem _ 32) ?_)
    | ((with_reducible refine EqE.idS ?_); refine EqE.mk _ (la_setN _ _ _ _ (by first | with_reducible exact own_ix _ | with_reducible exact own_ixI _ | exact own_ix _ | exact own_ixI _ | rfl) (by first | omega | (simp only [List.length_set]; omega)) (by omega)) ?_)
    | ((with_reducible refine EqE.idL ?_); refine EqE.mk _ (sl_own _ _ _ _ (by omega) (by omega) rfl) ?_)
    | refine Cd.mk (by first | omega | (dsimp only; omega) | (simp only [length_limbs, length_la, Nat.mul_one, List.length_set, List.length_take, List.length_drop, List.length_replicate, List.length_append, Int.toNat_natCast]; omega) | (rw [length_la, Nat.mul_one]) | (rw [length_limbs, Nat.mul_one]) | (refine ⟨⟨Int.le_refl _, ?_⟩, ?_⟩ <;> first | omega | (rw [Int.toNat_zero]; omega)) | (simp only [length_limbs, length_la, Nat.mul_one, List.length_set, List.length_take, List.length_drop, List.length_replicate]; exact Nat.le_refl _)) ?_)
  · rename_i h0
    refine ⟨_, ⟨n, i + 1, _, rfl, hnn, by omega, ?_, ?_, ?_, rfl, rfl⟩, by omega⟩
    · simp [hl]
    · rw [or_add32 hx1, nv_set0 (by omega) (hz _ (by omega)) (by omega), at_nat, at_nat, down_digit (z := nv (M.drop (i + 1 + 1))) hs, ← nv_drop', ← nv_drop', hv, Pw_succ, Nat.mul_comm 4294967296, Nat.mod_mul,
        nv_drop_div, Nat.div_div_eq_div_mul, Nat.div_div_eq_div_mul, Nat.mul_comm (2 ^ _)]
    · intro j hj
      rw [getD_set_ne (by omega)]; exact hz j (by omega)
  · rename_i h0
    have e : i = n := by omega
    have h2 := nv_lt M
    have h3 := Nat.div_le_self (nv M) (2 ^ (N % 32))
    show sl _ = sl _
    rw [hv, e, hnn, Nat.mod_eq_of_lt (by omega), ← hM, nv_drop_div, Nat.div_div_eq_div_mul, Pw_shift, Nat.div_add_mod]
end Go.Ev.Ar

namespace Go.Ev.Ar
open Go Go.Ev Go.Proofs

theorem rlow_sim (a : List UInt32) (ha : a.length < 2^30) (h0 : nv a ≠ 0) : Sim Tryz.prog G0 true 138 [sl a] (.int .i64 (tzn (nv a))) := by
  refine sim_mk tab_ok Tryz.func138 rfl (by kernel_rfl) rfl ⟨Nat.le_of_ble_eq_true rfl, Nat.le_of_ble_eq_true rfl⟩ ?_
  have h1 := ofN_len_nv a
  have h2 := nv_lt a
  rw [Pw_two] at h2
  have ht := tzn_lt h0 h2
  repeat' ((conv => whnf); first
    | with_reducible refine CallX.data ?_
    | refine CallE.mk _ _ (rtrim_sim _ (by omega)) ?_
    | refine RegE.early (Cd.mk (show regOk _ _ _ _ = true by kernel_rfl) ?_)
    | refine Cd.mk rfl ?_
    | with_reducible refine Br.dec (fun _ => ?_) (fun _ => ?_)
    | refine Res.mk ?_)
  · rename_i h
    exact absurd (ofN_len_zero.1 (show (ofN (nv a)).length = 0 by omega)) h0
  skip
  refine ⟨[], [3, 4], [], fun m xs h => ∃ i : Nat, m = tzn (nv a) - i ∧ i ≤ tzn (nv a) ∧ xs = [.d (sl (ofN (nv a))), .d (.int .i64 i)] ∧ h = [],
    ⟨_, _, _, ⟨.inl rfl, rfl, rfl, by first | rfl | (repeat first | exact all_nil _ | refine all_la _ _ _ _ _ ?_)⟩, 0, rfl, by omega, rfl, rfl⟩, ?_⟩
  rintro m xs h ⟨i, rfl, hi, rfl, rfl⟩
  repeat' ((conv => whnf); first
    | with_reducible refine CallX.data ?_
    | refine CallE.mk _ _ (rbit_sim _ _ (by omega) (by omega)) ?_
    | refine RegE.early (Cd.mk (show regOk _ _ _ _ = true by kernel_rfl) ?_)
    | refine Cd.mk rfl ?_
    | refine Br.mk (fun _ => ?_) (fun _ => ?_)
    | refine Res.mk ?_
    | refine LoopEnd.go _ _ ⟨.inl rfl, rfl, rfl, by first | rfl | (repeat first | exact all_nil _ | refine all_la _ _ _ _ _ ?_)⟩ ?_
    | ((with_reducible refine EqE.idW ?_); with_reducible refine EqE.mk _ (n_succ _ (by omega)) ?_))
  · rename_i h
    rw [nv_ofN, testBit_tzn h0 i hi] at h
    have h : i ≠ tzn (nv a) := by simpa using h
    exact ⟨_, ⟨i + 1, rfl, by omega, rfl, rfl⟩, by omega⟩
  · rename_i h
    rw [nv_ofN, testBit_tzn h0 i hi] at h
    have h : i = tzn (nv a) := by simpa using h
    show D.int _ _ = D.int _ _
    rw [h]
end Go.Ev.Ar

namespace Go.Ev.Ar
open Go Go.Ev Go.Proofs

set_option maxHeartbeats 2000000 in
theorem rdiv_sim (a b : List UInt32) (ha : a.length < 2^26) (hb : b.length < 2^26) (hb0 : nv b ≠ 0) : Sim Tryz.prog G0 false 191 [sl a, sl b] (.tup [sl (ofN (nv a / nv b)), sl (ofN (nv a % nv b)), .bool true]) := by
  refine sim_mk tab_ok Tryz.func191 rfl (by kernel_rfl) rfl ⟨Nat.le_of_ble_eq_true rfl, Nat.le_of_ble_eq_true rfl⟩ ?_
  have h1 := ofN_len_nv a
  have h2 := ofN_len_nv b
  have h3 := nv_lt (ofN (nv a))
  rw [nv_ofN, Pw_two] at h3
  have hnb := nb_le.2 h3
  have hnb2 : nb (nv (ofN (nv a))) ≤ 32 * (ofN (nv a)).length := by rw [nv_ofN]; exact hnb
  repeat' ((conv => whnf); first
    | with_reducible refine CallX.data ?_
    | refine CallE.mk _ _ (rtrim_sim _ (by omega)) ?_
    | refine CallE.mk _ _ (rbits_sim _ (by omega)) ?_
    | refine RegE.early (Cd.mk (show regOk _ _ _ _ = true by kernel_rfl) ?_)
    | refine Cd.mk rfl ?_
    | with_reducible refine Br.dec (fun _ => ?_) (fun _ => ?_)
    | refine Res.mk ?_
    | ((with_reducible refine EqE.idW ?_); with_reducible refine EqE.mk _ (wrap_in (by omega) (by omega)) ?_)
    | ((with_reducible refine EqE.idR ?_); refine EqE.mk _ (la_rep _) ?_)
    | refine Cd.mk (by first | omega | (dsimp only; omega) | (simp only [length_limbs, length_la, Nat.mul_one, List.length_set, List.length_take, List.length_drop, List.length_replicate, List.length_append, Int.toNat_natCast]; omega) | (rw [length_la, Nat.mul_one]) | (rw [length_limbs, Nat.mul_one]) | (refine ⟨⟨Int.le_refl _, ?_⟩, ?_⟩ <;> first | omega | (rw [Int.toNat_zero]; omega)) | (simp only [length_limbs, length_la, Nat.mul_one, List.length_set, List.length_take, List.length_drop, List.length_replicate]; exact Nat.le_refl _)) ?_)
  · rename_i h
    exact absurd (ofN_len_zero.1 (show (ofN (nv b)).length = 0 by omega)) hb0
  rename_i h4
  rw [nv_ofN]
  skip
  refine ⟨[], [7, 8, 9, 10, 11], [21], fun m xs h => ∃ (i : Int) (n : Nat) (r q : List UInt32), i = m - 1 ∧ n = (ofN (nv a)).length ∧ m ≤ nb (nv a) ∧ r = ofN (nv a / 2 ^ m % nv b) ∧ nv q = nv a / 2 ^ m / nv b * 2 ^ m ∧ q.length = n ∧
      xs = [.d (sl (ofN (nv a))), .d (sl (ofN (nv b))), .own 21 0 n 1, .d (sl r), .d (.int .i64 i)] ∧ h = [(21, false, la q)],
    ⟨_, _, _, ⟨.inr rfl, rfl, rfl, by first | rfl | (repeat first | exact all_nil _ | refine all_la _ _ _ _ _ ?_)⟩, _, _, [], _, rfl, rfl, Nat.le_refl _, ?_, ?_, List.length_replicate, rfl, rfl⟩, ?_⟩
  · rw [Nat.div_eq_of_lt (nb_lt _), Nat.zero_mod, ofN_zero]
  · rw [Nat.div_eq_of_lt (nb_lt _), Nat.zero_div, Nat.zero_mul, nv_replicate]
  rintro m xs h ⟨i, n, r, q, hi, hn, hm, hr, hq, hql, rfl, rfl⟩
  rcases m with _ | k
  · repeat' ((conv => whnf); first
      | with_reducible refine CallX.data ?_
      | refine CallE.mk _ _ (rtrim_sim _ (by omega)) ?_
      | refine RegE.early (Cd.mk (show regOk _ _ _ _ = true by kernel_rfl) ?_)
      | refine Cd.mk rfl ?_
      | with_reducible refine Br.dec (fun _ => ?_) (fun _ => ?_)
      | refine Res.mk ?_
      | refine DsE.mk (limbs _) rfl ?_
      | ((with_reducible refine EqE.idL ?_); refine EqE.mk _ (sl_own _ _ _ _ (by omega) (by omega) rfl) ?_))
    · omega
    · rename_i h5
      show D.tup [sl _, sl _, .bool true] = D.tup [sl _, sl _, .bool true]
      simp only [Nat.pow_zero, Nat.div_one, Nat.mul_one] at hr hq
      rw [hr, hq]
  obtain rfl : i = (k : Int) := by omega
  have hs : k % 32 < 32 := Nat.mod_lt _ (by decide)
  obtain ⟨c, hc⟩ := limb_clear hq
  have ho := u32_lt (q.getD (k / 32) 0)
  have hlt := orbit_lt hs ho hc
  have hrb : nv r < nv b := by rw [hr, nv_ofN]; exact Nat.mod_lt _ (by omega)
  have hrl : r.length ≤ b.length := by rw [hr]; exact ofN_len_le.2 (Nat.lt_trans (by rw [← nv_ofN (_ % _), ← hr]; exact hrb) (nv_lt b))
  have hr1 : (ofN (nv r * 2 ^ (Int.toNat 1))).length ≤ b.length + 1 := ofN_len_le.2 (by rw [Pw_succ]; have := nv_lt b; show nv r * 2 < _; omega)
  have hr2 : (ofN (nv (ofN (nv r * 2 ^ (Int.toNat 1))) + nv [1])).length ≤ b.length + 1 := ofN_len_le.2 (by rw [Pw_succ, nv_ofN]; have := nv_lt b; show nv r * 2 + 1 < _; omega)
  have hst := div_step (nv a) (nv b) k _ (by omega) rfl
  have hrv : nv r = nv a / 2 ^ (k + 1) % nv b := by rw [hr, nv_ofN]
  repeat' ((conv => whnf); first
    | with_reducible refine CallX.data ?_
    | refine CallE.mk _ _ (rshl_sim _ _ (by omega) (by omega)) ?_
    | refine CallE.mk _ _ (rbit_sim _ _ (by omega) (by omega)) ?_
    | refine CallE.mk _ _ (radd_sim _ _ (by omega) (by simp)) ?_
    | refine CallE.mk _ _ (rcmp_sim _ _ (by omega) (by omega)) ?_
    | refine CallE.mk _ _ (rsub_sim _ _ (by omega) (by omega)) ?_
    | refine DsE.mk (limbs [1]) rfl ?_
    | refine Cd.mk (show 0 + 1 ≤ List.length (repA 1 _) from Nat.le_of_ble_eq_true rfl) ?_
    | refine RegE.early (Cd.mk (show regOk _ _ _ _ = true by kernel_rfl) ?_)
    | refine Cd.mk rfl ?_
    | refine Br.t ?_
    | with_reducible refine Br.dec (fun _ => ?_) (fun _ => ?_)
    | refine Br.mk (fun _ => ?_) (fun _ => ?_)
    | refine NthE.mk _ (la_get _ _ _ (by first | with_reducible exact own_ix _ | with_reducible exact own_ixI _ | exact own_ix _ | exact own_ixI _ | rfl) (by first | omega | (simp only [List.length_set]; omega))) ?_
    | refine NthE.mk _ rfl ?_
    | refine LoopEnd.go _ _ ⟨.inl rfl, rfl, rfl, by first | rfl | (repeat first | exact all_nil _ | refine all_la _ _ _ _ _ ?_)⟩ ?_
    | ((with_reducible refine EqE.idW ?_); first | with_reducible refine EqE.mk _ (n_shl1_32 _ hs) ?_ | with_reducible refine EqE.mk _ (n_orbit hs ho hc) ?_ | refine EqE.mk _ (n_quo _ 32 (by omega)) ?_ | with_reducible refine EqE.mk _ (n_u64 _ (by omega)) ?_ | with_reducible refine EqE.mk _ (wrap_in (by omega) (by omega)) ?_)
    | ((with_reducible refine EqE.idM ?_); refine EqE.mk _ (n_rem _ 32) ?_)
    | ((with_reducible refine EqE.idS ?_); refine EqE.mk _ (la_setN _ _ _ _ (by first | with_reducible exact own_ix _ | with_reducible exact own_ixI _ | exact own_ix _ | exact own_ixI _ | rfl) (by first | omega | (simp only [List.length_set]; omega)) (by omega)) ?_)
    | ((with_reducible refine EqE.idL ?_); refine EqE.mk (sl [1]) rfl ?_)
    | refine Cd.mk (by first | omega | (dsimp only; omega) | (simp only [length_limbs, length_la, Nat.mul_one, List.length_set, List.length_take, List.length_drop, List.length_replicate, List.length_append, Int.toNat_natCast]; omega) | (rw [length_la, Nat.mul_one]) | (rw [length_limbs, Nat.mul_one]) | (refine ⟨⟨Int.le_refl _, ?_⟩, ?_⟩ <;> first | omega | (rw [Int.toNat_zero]; omega)) | (simp only [length_limbs, length_la, Nat.mul_one, List.length_set, List.length_take, List.length_drop, List.length_replicate]; exact Nat.le_refl _)) ?_)
  · rename_i hbit hcmp
    have e1 : nv (ofN (nv (ofN (nv r * 2 ^ Int.toNat 1)) + nv [1])) = nv r * 2 + 1 := by rw [nv_ofN, nv_ofN]; rfl
    rw [nv_ofN] at hbit
    rw [cmpN_ge] at hcmp
    rw [nv_ofN, e1] at hcmp
    rw [hbit, ← hrv] at hst
    simp only [Bool.toNat_true, Nat.add_zero] at hst
    rw [if_pos hcmp, if_pos hcmp] at hst
    refine ⟨k, ⟨_, n, _, _, rfl, hn, by omega, ?_, ?_, ?_, rfl, rfl⟩, by omega⟩
    · rw [hst.1, e1, nv_ofN]
    · rw [nv_setbit (by omega) hlt, hq, hst.2, Nat.pow_succ]; grind
    · rw [List.length_set, hql]
  · rename_i hbit hcmp
    have e1 : nv (ofN (nv (ofN (nv r * 2 ^ Int.toNat 1)) + nv [1])) = nv r * 2 + 1 := by rw [nv_ofN, nv_ofN]; rfl
    rw [nv_ofN] at hbit
    rw [cmpN_ge] at hcmp
    rw [nv_ofN, e1] at hcmp
    rw [hbit, ← hrv] at hst
    simp only [Bool.toNat_true, Nat.add_zero] at hst
    rw [if_neg hcmp, if_neg hcmp] at hst
    refine ⟨k, ⟨_, n, _, _, rfl, hn, by omega, ?_, ?_, ?_, rfl, rfl⟩, by omega⟩
    · rw [hst.1, ← e1, nv_ofN, nv_ofN]
    · rw [hq, hst.2, Nat.pow_succ]; grind
    · exact hql
  · rename_i hbit hcmp
    have e1 : nv (ofN (nv r * 2 ^ Int.toNat 1)) = nv r * 2 := by rw [nv_ofN]; rfl
    rw [nv_ofN] at hbit
    rw [cmpN_ge] at hcmp
    rw [nv_ofN, e1] at hcmp
    rw [hbit, ← hrv] at hst
    simp only [Bool.toNat_false, Nat.add_zero] at hst
    rw [if_pos hcmp, if_pos hcmp] at hst
    refine ⟨k, ⟨_, n, _, _, rfl, hn, by omega, ?_, ?_, ?_, rfl, rfl⟩, by omega⟩
    · rw [hst.1, e1, nv_ofN]
    · rw [nv_setbit (by omega) hlt, hq, hst.2, Nat.pow_succ]; grind
    · rw [List.length_set, hql]
  · rename_i hbit hcmp
    have e1 : nv (ofN (nv r * 2 ^ Int.toNat 1)) = nv r * 2 := by rw [nv_ofN]; rfl
    rw [nv_ofN] at hbit
    rw [cmpN_ge] at hcmp
    rw [nv_ofN, e1] at hcmp
    rw [hbit, ← hrv] at hst
    simp only [Bool.toNat_false, Nat.add_zero] at hst
    rw [if_neg hcmp, if_neg hcmp] at hst
    refine ⟨k, ⟨_, n, _, _, rfl, hn, by omega, ?_, ?_, ?_, rfl, rfl⟩, by omega⟩
    · rw [hst.1, ← e1, nv_ofN]
    · rw [hq, hst.2, Nat.pow_succ]; grind
    · exact hql
end Go.Ev.Ar
