/- Contracts of the given functions, on data. Conditions stand in each theorem. -/
import Derived.Test.YtagjickjfjgfpaaGreatDoorGAvRefA
set_option linter.unusedSimpArgs false
set_option linter.unusedVariables false
namespace Go.Ev.Ar
open Go Go.Ev Go.Proofs

theorem rbit_sim (l : List UInt32) (i : Nat) (hl : l.length < 2^32) (hi : i < 2^40) : Sim Tryz.prog G0 true 142 [sl l, .int .i64 i] (.bool ((nv l).testBit i)) := by
  refine sim_mk tab_ok Tryz.func142 rfl (by kernel_rfl) rfl ⟨Nat.le_of_ble_eq_true rfl, Nat.le_of_ble_eq_true rfl⟩ ?_
  have hx := u32_lt (l.getD (i / 32) 0)
  have hx2 := Nat.div_le_self (l.getD (i / 32) 0).toNat (2 ^ (i % 32))
  repeat' ((conv => whnf); first
    | refine RegE.early (Cd.mk (show regOk _ _ _ _ = true by kernel_rfl) ?_)
    | refine Cd.mk rfl ?_
    | refine Br.t ?_
    | refine Br.f ?_
    | with_reducible refine Br.dec (fun _ => ?_) (fun _ => ?_)
    | refine NthE.mk _ (limbs_dropN _ _ (by omega)) ?_
    | refine Res.mk ?_
    | ((with_reducible refine EqE.idW ?_); first | with_reducible refine EqE.mk _ (n_and1_32 _ (by omega)) ?_ | refine EqE.mk _ (n_quo _ 32 (by omega)) ?_ | with_reducible refine EqE.mk _ (n_u64 _ (by omega)) ?_)
    | ((with_reducible refine EqE.idF ?_); with_reducible refine EqE.mk _ (n_shrv32 _ _ (by omega)) ?_)
    | ((with_reducible refine EqE.idM ?_); refine EqE.mk _ (n_rem _ 32) ?_)
    | refine Cd.mk (by first | omega | (dsimp only; omega) | (simp only [length_limbs, length_la, Nat.mul_one, List.length_set, List.length_take, List.length_drop, List.length_replicate, List.length_append, Int.toNat_natCast]; omega) | (rw [length_la, Nat.mul_one]) | (rw [length_limbs, Nat.mul_one]) | (refine ⟨⟨Int.le_refl _, ?_⟩, ?_⟩ <;> first | omega | (rw [Int.toNat_zero]; omega)) | (simp only [length_limbs, length_la, Nat.mul_one, List.length_set, List.length_take, List.length_drop, List.length_replicate]; exact Nat.le_refl _)) ?_)
  · rename_i h0
    show D.bool _ = D.bool _
    rw [testBit_nv]
    congr 1
    rw [Bool.eq_iff_iff, decide_eq_true_iff, decide_eq_true_iff]; omega
  · rename_i h0
    show D.bool _ = D.bool _
    rw [testBit_nv, getD_big (by omega)]
    simp
end Go.Ev.Ar

namespace Go.Ev.Ar
open Go Go.Ev Go.Proofs

set_option maxHeartbeats 1000000 in
theorem rshl_sim (a : List UInt32) (n : Int) (ha : a.length < 2^30) (hn : n ≤ 100000) : Sim Tryz.prog G0 false 171 [sl a, .int .i64 n] (sl (ofN (nv a * 2 ^ n.toNat))) := by
  refine sim_mk tab_ok Tryz.func171 rfl (by kernel_rfl) rfl ⟨Nat.le_of_ble_eq_true rfl, Nat.le_of_ble_eq_true rfl⟩ ?_
  have hN : n.toNat ≤ 100000 := by omega
  have hs : n.toNat % 32 < 32 := Nat.mod_lt _ (by decide)
  repeat' ((conv => whnf); first
    | refine RegE.early (Cd.mk (show regOk _ _ _ _ = true by kernel_rfl) ?_)
    | refine Cd.mk rfl ?_
    | ((with_reducible refine EqE.idW ?_); first | refine EqE.mk _ (n_quo _ 32 (by omega)) ?_ | with_reducible refine EqE.mk _ (n_i64 _ (by omega)) ?_ | with_reducible refine EqE.mk _ (n_succ _ (by omega)) ?_)
    | ((with_reducible refine EqE.idI ?_); first | refine EqE.mk _ (max0r _ hn) ?_ | refine EqE.mk _ (min_eq _ _) ?_)
    | ((with_reducible refine EqE.idR ?_); refine EqE.mk _ (la_rep _) ?_)
    | refine Cd.mk (by first | omega | (dsimp only; omega) | (simp only [length_limbs, length_la, Nat.mul_one, List.length_set, List.length_take, List.length_drop, List.length_replicate, List.length_append, Int.toNat_natCast]; omega) | (rw [length_la, Nat.mul_one]) | (rw [length_limbs, Nat.mul_one]) | (refine ⟨⟨Int.le_refl _, ?_⟩, ?_⟩ <;> first | omega | (rw [Int.toNat_zero]; omega)) | (simp only [length_limbs, length_la, Nat.mul_one, List.length_set, List.length_take, List.length_drop, List.length_replicate]; exact Nat.le_refl _)) ?_)
  generalize n.toNat = N at *
  refine ⟨[], [0,5,6,7], [18], fun m xs h => ∃ (n i : Nat) (l : List UInt32), m = a.length - i ∧ n = a.length + N / 32 + 1 ∧ i ≤ a.length ∧ l.length = n ∧ nv l = Pw (N / 32) * (nv (a.take i) * 2 ^ (N % 32)) ∧ (∀ j, i + N / 32 + 1 ≤ j → (l.getD j 0).toNat = 0) ∧ (l.getD (i + N / 32) 0).toNat < 2 ^ (N % 32) ∧
    xs = [.d (sl a), .d (.int .i64 N), .own 18 0 n 1, .d (.int .i64 i)] ∧ h = [(18, false, la l)],
    ⟨_, _, _, ⟨.inl rfl, rfl, rfl, by first | rfl | (repeat first | exact all_nil _ | refine all_la _ _ _ _ _ ?_)⟩, _, 0, _, rfl, rfl, by omega, List.length_replicate, by simp [nv_replicate], fun j _ => getD_rep _ _, by rw [getD_rep]; exact Nat.two_pow_pos _, rfl, rfl⟩, ?_⟩
  rintro m xs h ⟨n, i, l, rfl, hnn, hi, hl, hv, hz, ho, rfl, rfl⟩
  have hx := u32_lt (a.getD i 0)
  have ho2 := u32_lt (l.getD (i + N / 32) 0)
  have hy := shl_lt hx hs
  have hb := add_shl_lt (x := (a.getD i 0).toNat) hs ho
  repeat' ((conv => whnf); first
    | with_reducible refine CallX.data ?_
    | refine CallE.mk _ _ (rtrim_sim _ (by omega)) ?_
    | refine RegE.early (Cd.mk (show regOk _ _ _ _ = true by kernel_rfl) ?_)
    | refine Cd.mk rfl ?_
    | with_reducible refine Br.dec (fun _ => ?_) (fun _ => ?_)
    | refine NthE.mk _ (limbs_dropN _ _ (by omega)) ?_
    | refine NthE.mk _ (la_get _ _ _ (by first | with_reducible exact own_ix _ | with_reducible exact own_ixI _ | exact own_ix _ | exact own_ixI _ | rfl) (by first | omega | (simp only [List.length_set]; omega))) ?_
    | refine Res.mk ?_
    | refine DsE.mk (limbs _) rfl ?_
    | refine LoopEnd.go _ _ ⟨.inl rfl, rfl, rfl, by first | rfl | (repeat first | exact all_nil _ | refine all_la _ _ _ _ _ ?_)⟩ ?_
    | ((with_reducible refine EqE.idW ?_); first | with_reducible refine EqE.mk _ (n_orshl _ _ _ hs ho ho2) ?_ | with_reducible refine EqE.mk _ (wrap_u64_u32 _) ?_ | with_reducible refine EqE.mk _ (n_shl _ _ (by omega) (by omega)) ?_ | refine EqE.mk _ (n_quo _ 32 (by omega)) ?_ | with_reducible refine EqE.mk _ (n_u32 _) ?_ | with_reducible refine EqE.mk _ (n_u64 _ (by omega)) ?_ | with_reducible refine EqE.mk _ (n_i64 _ (by omega)) ?_ | with_reducible refine EqE.mk _ (n_succ _ (by omega)) ?_)
    | ((with_reducible refine EqE.idF ?_); refine EqE.mk _ (n_shr _ 4294967296 _ _ rfl) ?_)
    | ((with_reducible refine EqE.idM ?_); refine EqE.mk _ (n_rem _ 32) ?_)
    | ((with_reducible refine EqE.idS ?_); refine EqE.mk _ (la_setN _ _ _ _ (by first | with_reducible exact own_ix _ | with_reducible exact own_ixI _ | exact own_ix _ | exact own_ixI _ | rfl) (by first | omega | (simp only [List.length_set]; omega)) (by omega)) ?_)
    | ((with_reducible refine EqE.idL ?_); refine EqE.mk _ (sl_own _ _ _ _ (by omega) (by omega) rfl) ?_)
    | refine Cd.mk (by first | omega | (dsimp only; omega) | (simp only [length_limbs, length_la, Nat.mul_one, List.length_set, List.length_take, List.length_drop, List.length_replicate, List.length_append, Int.toNat_natCast]; omega) | (rw [length_la, Nat.mul_one]) | (rw [length_limbs, Nat.mul_one]) | (refine ⟨⟨Int.le_refl _, ?_⟩, ?_⟩ <;> first | omega | (rw [Int.toNat_zero]; omega)) | (simp only [length_limbs, length_la, Nat.mul_one, List.length_set, List.length_take, List.length_drop, List.length_replicate]; exact Nat.le_refl _)) ?_)
  · rename_i h0
    refine ⟨_, ⟨n, i + 1, _, rfl, hnn, by omega, ?_, ?_, ?_, ?_, rfl, rfl⟩, by omega⟩
    · simp [hl]
    · have h1 := nv_set l (i + N / 32) (UInt32.ofNat ((l.getD (i + N / 32) 0).toNat + (a.getD i 0).toNat * 2 ^ (N % 32) % 4294967296)) (by omega)
      rw [toNat_ofNat hb, Nat.mul_add] at h1
      rw [nv_set0 (by simp; omega) (by rw [getD_set_ne (by omega)]; exact hz _ (by omega)) (by omega), nv_take_succ', Nat.mod_eq_of_lt (show (a.getD i 0).toNat * 2 ^ (N % 32) / 4294967296 < 4294967296 by omega), Pw_succ]
      have h5 := limb_step (Pw (i + N / 32)) ((a.getD i 0).toNat * 2 ^ (N % 32))
      have h6 : Pw (N / 32) * ((nv (a.take i) + Pw i * (a.getD i 0).toNat) * 2 ^ (N % 32)) = Pw (N / 32) * (nv (a.take i) * 2 ^ (N % 32)) + Pw (i + N / 32) * ((a.getD i 0).toNat * 2 ^ (N % 32)) := by
        rw [Pw_add]; grind
      rw [h6]; omega
    · intro j hj
      rw [getD_set_ne (by omega), getD_set_ne (by omega)]; exact hz j (by omega)
    · rw [show i + 1 + N / 32 = i + N / 32 + 1 by omega]
      rw [getD_set_self (by simp; omega), toNat_ofNat (by omega), Nat.mod_eq_of_lt (by omega)]
      exact shl_carry hx hs
  · rename_i h0
    show sl _ = sl _
    rw [List.take_of_length_le (by omega)] at hv
    rw [hv, show Pw (N / 32) * (nv a * 2 ^ (N % 32)) = nv a * (Pw (N / 32) * 2 ^ (N % 32)) by grind, Pw_shift, Nat.div_add_mod]
theorem rshr_sim (a : List UInt32) (n : Int) (ha : a.length < 2^30) (hn : n ≤ 100000) : Sim Tryz.prog G0 false 75 [sl a, .int .i64 n] (sl (ofN (nv a / 2 ^ n.toNat))) := by
  refine sim_mk tab_ok Tryz.func75 rfl (by kernel_rfl) rfl ⟨Nat.le_of_ble_eq_true rfl, Nat.le_of_ble_eq_true rfl⟩ ?_
  have hN : n.toNat ≤ 100000 := by omega
  have hs : n.toNat % 32 < 32 := Nat.mod_lt _ (by decide)
  repeat' ((conv => whnf); first
    | refine RegE.early (Cd.mk (show regOk _ _ _ _ = true by kernel_rfl) ?_)
    | refine Cd.mk rfl ?_
    | with_reducible refine Br.dec (fun _ => ?_) (fun _ => ?_)
    | refine Res.mk ?_
    | ((with_reducible refine EqE.idW ?_); refine EqE.mk _ (n_quo _ 32 (by omega)) ?_)
    | ((with_reducible refine EqE.idI ?_); first | refine EqE.mk _ (max0r _ hn) ?_ | refine EqE.mk _ (min_eq _ _) ?_)
    | ((with_reducible refine EqE.idR ?_); refine EqE.mk _ (la_rep _) ?_)
    | ((with_reducible refine EqE.idL ?_); refine EqE.mk _ (sl_sliceN _ _ (by omega)) ?_)
    | refine Cd.mk (by first | omega | (dsimp only; omega) | (simp only [length_limbs, length_la, Nat.mul_one, List.length_set, List.length_take, List.length_drop, List.length_replicate, List.length_append, Int.toNat_natCast]; omega) | (rw [length_la, Nat.mul_one]) | (rw [length_limbs, Nat.mul_one]) | (refine ⟨⟨Int.le_refl _, ?_⟩, ?_⟩ <;> first | omega | (rw [Int.toNat_zero]; omega)) | (simp only [length_limbs, length_la, Nat.mul_one, List.length_set, List.length_take, List.length_drop, List.length_replicate]; exact Nat.le_refl _)) ?_)
  · rename_i h
    have h2 := nv_lt a
    have : nv a < 2 ^ n.toNat := Nat.lt_of_lt_of_le h2 (by rw [Pw_two]; exact Nat.pow_le_pow_right (by decide) (by omega))
    show sl _ = sl []
    rw [Nat.div_eq_of_lt this, ofN_zero]
  rename_i h
  generalize n.toNat = N at *
  skip
  generalize hM : a.drop (N / 32) = M at *
  refine ⟨[], [5,6,7,8], [23], fun m xs h => ∃ (n i : Nat) (l : List UInt32), m = n - i ∧ n = M.length ∧ i ≤ n ∧ l.length = n ∧ nv l = (nv M / 2 ^ (N % 32)) % Pw i ∧ (∀ j, i ≤ j → (l.getD j 0).toNat = 0) ∧
    xs = [.d (.int .i64 N), .d (sl M), .own 23 0 n 1, .d (.int .i64 i)] ∧ h = [(23, false, la l)],
    ⟨_, _, _, ⟨.inl rfl, rfl, rfl, by first | rfl | (repeat first | exact all_nil _ | refine all_la _ _ _ _ _ ?_)⟩, _, 0, _, rfl, rfl, by omega, List.length_replicate, ?_, fun j _ => getD_rep _ _, rfl, rfl⟩, ?_⟩
  · rw [nv_replicate, Pw_zero, Nat.mod_one]
  rintro m xs h ⟨n, i, l, rfl, hnn, hi, hl, hv, hz, rfl, rfl⟩
  have hx1 := at_lt M (i : Int)
  have hx2 := at_lt M ((i + 1 : Nat) : Int)
  have hM2 : M.length ≤ a.length := by rw [← hM]; simp
  repeat' ((conv => whnf); first
    | with_reducible refine CallX.data ?_
    | refine CallE.mk _ _ (rat_sim _ _) ?_
    | refine CallE.mk _ _ (rtrim_sim _ (by omega)) ?_
    | refine RegE.early (Cd.mk (show regOk _ _ _ _ = true by kernel_rfl) ?_)
    | refine Cd.mk rfl ?_
    | with_reducible refine Br.dec (fun _ => ?_) (fun _ => ?_)
    | refine Res.mk ?_
    | refine DsE.mk (limbs _) rfl ?_
    | refine LoopEnd.go _ _ ⟨.inl rfl, rfl, rfl, by first | rfl | (repeat first | exact all_nil _ | refine all_la _ _ _ _ _ ?_)⟩ ?_
    | ((with_reducible refine EqE.idW ?_); first | with_reducible refine EqE.mk _ (n_shl32 _ (by omega)) ?_ | with_reducible refine EqE.mk _ (n_or _ _ (by omega) (by omega)) ?_ | with_reducible refine EqE.mk _ (n_u32 _) ?_ | with_reducible refine EqE.mk _ (n_u64 _ (by omega)) ?_ | with_reducible refine EqE.mk _ (n_succ _ (by omega)) ?_)
    | ((with_reducible refine EqE.idF ?_); with_reducible refine EqE.mk _ (n_shrv _ _ (by omega)) ?_)
    | ((with_reducible refine EqE.idM ?_); refine EqE.mk _ (n_rem _ 32) ?_)
    | ((with_reducible refine EqE.idS ?_); refine EqE.mk _ (la_setN _ _ _ _ (by first | with_reducible exact own_ix _ | with_reducible exact own_ixI _ | exact own_ix _ | exact own_ixI _ | rfl) (by first | omega | (simp only [List.length_set]; omega)) (by omega)) ?_)
    | ((with_reducible refine EqE.idL ?_); refine EqE.mk _ (sl_own _ _ _ _ (by omega) (by omega) rfl) ?_)
    | refine Cd.mk (by first | omega | (dsimp only; omega) | (simp only [length_limbs, length_la, Nat.mul_one, List.length_set, List.length_take, List.length_drop, List.length_replicate, List.length_append, Int.toNat_natCast]; omega) | (rw [length_la, Nat.mul_one]) | (rw [length_limbs, Nat.mul_one]) | (refine ⟨⟨Int.le_refl _, ?_⟩, ?_⟩ <;> first | omega | (rw [Int.toNat_zero]; omega)) | (simp only [length_limbs, length_la, Nat.mul_one, List.length_set, List.length_take, List.length_drop, List.length_replicate]; exact Nat.le_refl _)) ?_)
  · rename_i h0
    refine ⟨_, ⟨n, i + 1, _, rfl, hnn, by omega, ?_, ?_, ?_, rfl, rfl⟩, by omega⟩
    · simp [hl]
    · rw [or_add32 hx1, nv_set0 (by omega) (hz _ (by omega)) (by omega), at_nat, at_nat, down_digit (z := nv (M.drop (i + 1 + 1))) hs, ← nv_drop', ← nv_drop', hv, Pw_succ, Nat.mul_comm 4294967296, Nat.mod_mul,
        nv_drop_div, Nat.div_div_eq_div_mul, Nat.div_div_eq_div_mul, Nat.mul_comm (2 ^ _)]
    · intro j hj
      rw [getD_set_ne (by omega)]; exact hz j (by omega)
  · rename_i h0
    have e : i = n := by omega
    have h2 := nv_lt M
    have h3 := Nat.div_le_self (nv M) (2 ^ (N % 32))
    show sl _ = sl _
    rw [hv, e, hnn, Nat.mod_eq_of_lt (by omega), ← hM, nv_drop_div, Nat.div_div_eq_div_mul, Pw_shift, Nat.div_add_mod]
end Go.Ev.Ar

namespace Go.Ev.Ar
open Go Go.Ev Go.Proofs

theorem rlow_sim (a : List UInt32) (ha : a.length < 2^30) (h0 : nv a ≠ 0) : Sim Tryz.prog G0 true 74 [sl a] (.int .i64 (tzn (nv a))) := by
  refine sim_mk tab_ok Tryz.func74 rfl (by kernel_rfl) rfl ⟨Nat.le_of_ble_eq_true rfl, Nat.le_of_ble_eq_true rfl⟩ ?_
  have h1 := ofN_len_nv a
  have h2 := nv_lt a
  rw [Pw_two] at h2
  have ht := tzn_lt h0 h2
  repeat' ((conv => whnf); first
    | with_reducible refine CallX.data ?_
    | refine CallE.mk _ _ (rtrim_sim _ (by omega)) ?_
    | refine RegE.early (Cd.mk (show regOk _ _ _ _ = true by kernel_rfl) ?_)
    | refine Cd.mk rfl ?_
    | with_reducible refine Br.dec (fun _ => ?_) (fun _ => ?_)
    | refine Res.mk ?_)
  · rename_i h
    exact absurd (ofN_len_zero.1 (show (ofN (nv a)).length = 0 by omega)) h0
  skip
  refine ⟨[], [3, 4], [], fun m xs h => ∃ i : Nat, m = tzn (nv a) - i ∧ i ≤ tzn (nv a) ∧ xs = [.d (sl (ofN (nv a))), .d (.int .i64 i)] ∧ h = [],
    ⟨_, _, _, ⟨.inl rfl, rfl, rfl, by first | rfl | (repeat first | exact all_nil _ | refine all_la _ _ _ _ _ ?_)⟩, 0, rfl, by omega, rfl, rfl⟩, ?_⟩
  rintro m xs h ⟨i, rfl, hi, rfl, rfl⟩
  repeat' ((conv => whnf); first
    | with_reducible refine CallX.data ?_
    | refine CallE.mk _ _ (rbit_sim _ _ (by omega) (by omega)) ?_
    | refine RegE.early (Cd.mk (show regOk _ _ _ _ = true by kernel_rfl) ?_)
    | refine Cd.mk rfl ?_
    | refine Br.mk (fun _ => ?_) (fun _ => ?_)
    | refine Res.mk ?_
    | refine LoopEnd.go _ _ ⟨.inl rfl, rfl, rfl, by first | rfl | (repeat first | exact all_nil _ | refine all_la _ _ _ _ _ ?_)⟩ ?_
    | ((with_reducible refine EqE.idW ?_); with_reducible refine EqE.mk _ (n_succ _ (by omega)) ?_))
  · rename_i h
    rw [nv_ofN, testBit_tzn h0 i hi] at h
    have h : i ≠ tzn (nv a) := by simpa using h
    exact ⟨_, ⟨i + 1, rfl, by omega, rfl, rfl⟩, by omega⟩
  · rename_i h
    rw [nv_ofN, testBit_tzn h0 i hi] at h
    have h : i = tzn (nv a) := by simpa using h
    show D.int _ _ = D.int _ _
    rw [h]
end Go.Ev.Ar

namespace Go.Ev.Ar
open Go Go.Ev Go.Proofs

end Go.Ev.Ar
