/- Contracts of the given functions, on data. Conditions stand in each theorem. -/
import Derived.Test.YtagjickjfjgfpaaGreatDoorGAvNatC
set_option linter.unusedSimpArgs false
set_option linter.unusedVariables false
namespace Go.Ev.Ar
open Go Go.Ev Go.Proofs

theorem up_sim (a : List UInt32) (n : Int) (ha : a.length < 2^30) (hn : n ≤ 2^30) : Sim Tryz.prog G0 false 216 [sl a, .int .i64 n] (sl (ofN (nv a * 2 ^ n.toNat))) := by
  refine sim_mk tab_ok Tryz.func216 rfl (by kernel_rfl) rfl ⟨Nat.le_of_ble_eq_true rfl, Nat.le_of_ble_eq_true rfl⟩ ?_
  have h1 := ofN_len_nv a
  repeat' ((conv => whnf); first
    | with_reducible refine CallX.data ?_
    | refine CallE.mk _ _ (cut_sim _ (by omega)) ?_
    | refine RegE.early (Cd.mk (show regOk _ _ _ _ = true by kernel_rfl) ?_)
    | refine Cd.mk rfl ?_
    | with_reducible refine Br.dec (fun _ => ?_) (fun _ => ?_)
    | refine Res.mk ?_
    | ((with_reducible refine EqE.idW ?_); first | refine EqE.mk _ (n_quo _ 32 (by omega)) ?_ | with_reducible refine EqE.mk _ (n_i64 _ (by omega)) ?_ | with_reducible refine EqE.mk _ (n_succ _ (by omega)) ?_)
    | ((with_reducible refine EqE.idM ?_); refine EqE.mk _ (n_rem _ 32) ?_)
    | ((with_reducible refine EqE.idI ?_); refine EqE.mk _ (max0 _) ?_)
    | ((with_reducible refine EqE.idR ?_); refine EqE.mk _ (la_rep _) ?_)
    | refine Cd.mk (by first | omega | (dsimp only; omega) | (simp only [length_limbs, length_la, Nat.mul_one, List.length_set, List.length_take, List.length_drop, List.length_replicate, List.length_append, Int.toNat_natCast]; omega) | (rw [length_la, Nat.mul_one]) | (rw [length_limbs, Nat.mul_one]) | (refine ⟨⟨Int.le_refl _, ?_⟩, ?_⟩ <;> first | omega | (rw [Int.toNat_zero]; omega)) | (simp only [length_limbs, length_la, Nat.mul_one, List.length_set, List.length_take, List.length_drop, List.length_replicate]; exact Nat.le_refl _)) ?_)
  · rename_i h
    have : nv a = 0 := ofN_len_zero.1 (by omega)
    show sl _ = sl []
    rw [this, Nat.zero_mul, ofN_zero]
  rename_i h
  generalize hA : ofN (nv a) = A at *
  have hvA : nv A = nv a := by rw [← hA, nv_ofN]
  have hs : n.toNat % 32 < 32 := Nat.mod_lt _ (by decide)
  have hN : n.toNat = 32 * (n.toNat / 32) + n.toNat % 32 := (Nat.div_add_mod _ _).symm
  have hN2 : n.toNat ≤ 2^30 := by omega
  generalize hqe : n.toNat / 32 = q at *
  generalize hse : n.toNat % 32 = s at *
  skip
  refine ⟨[], [0,5,6,7,29,30], [25], fun m xs h => ∃ (n i : Nat) (l : List UInt32), m = A.length + 1 - i ∧ n = A.length + q + 1 ∧ i ≤ A.length + 1 ∧ l.length = n ∧ nv l + Pw (q + i) * (at_ A (i - 1) * 2 ^ s / 4294967296) = Pw q * (nv (A.take i) * 2 ^ s) ∧ (∀ j, q + i ≤ j → (l.getD j 0).toNat = 0) ∧
    xs = [.d (sl A), .d (.int .i64 q), .d (.int .i64 s), .own 25 0 n 1, .d (.int .i64 ((n - q : Int).toNat : Nat)), .d (.int .i64 i)] ∧ h = [(25, false, la l)],
    ⟨_, _, _, ⟨.inl rfl, rfl, rfl, by first | rfl | (repeat first | exact all_nil _ | refine all_la _ _ _ _ _ ?_)⟩, _, 0, _, rfl, ?_, by omega, by simp, ?_, fun j _ => getD_rep _ _, rfl, rfl⟩, ?_⟩
  · omega
  · rw [show at_ A ((0 : Nat) - 1 : Int) = 0 from rfl, nv_replicate]; simp
  rintro m xs h ⟨n, i, l, rfl, hn, hi, hl, hv, hz, rfl, rfl⟩
  have hx1 := at_lt A i
  have hx2 := at_lt A (i - 1)
  have hy1 := shl_lt hx1 hs
  have hy2 := shl_lt hx2 hs
  repeat' ((conv => whnf); first
    | with_reducible refine CallX.data ?_
    | refine CallE.mk _ _ (at_sim _ _) ?_
    | refine CallE.mk _ _ (cut_sim _ (by omega)) ?_
    | refine RegE.early (Cd.mk (show regOk _ _ _ _ = true by kernel_rfl) ?_)
    | refine Cd.mk rfl ?_
    | with_reducible refine Br.dec (fun _ => ?_) (fun _ => ?_)
    | refine Res.mk ?_
    | refine DsE.mk (limbs _) rfl ?_
    | refine LoopEnd.go _ _ ⟨.inl rfl, rfl, rfl, by first | rfl | (repeat first | exact all_nil _ | refine all_la _ _ _ _ _ ?_)⟩ ?_
    | ((with_reducible refine EqE.idW ?_); first | with_reducible refine EqE.mk _ (n_shl _ _ (by omega) (by omega)) ?_ | with_reducible refine EqE.mk _ (n_or _ _ (by omega) (by omega)) ?_ | with_reducible refine EqE.mk _ (n_u32 _) ?_ | with_reducible refine EqE.mk _ (n_i64 _ (by omega)) ?_ | with_reducible refine EqE.mk _ (n_succ _ (by omega)) ?_ | with_reducible refine EqE.mk _ (wrap_in (by omega) (by omega)) ?_)
    | ((with_reducible refine EqE.idF ?_); refine EqE.mk _ (n_shr _ 4294967296 _ _ rfl) ?_)
    | ((with_reducible refine EqE.idS ?_); refine EqE.mk _ (la_setN _ _ _ _ (by first | with_reducible exact own_ix _ | with_reducible exact own_ixI _ | exact own_ix _ | exact own_ixI _ | rfl) (by first | omega | (simp only [List.length_set]; omega)) (by omega)) ?_)
    | ((with_reducible refine EqE.idL ?_); refine EqE.mk _ (sl_own _ _ _ _ (by omega) (by omega) rfl) ?_)
    | refine Cd.mk (by first | omega | (dsimp only; omega) | (simp only [length_limbs, length_la, Nat.mul_one, List.length_set, List.length_take, List.length_drop, List.length_replicate, List.length_append, Int.toNat_natCast]; omega) | (rw [length_la, Nat.mul_one]) | (rw [length_limbs, Nat.mul_one]) | (refine ⟨⟨Int.le_refl _, ?_⟩, ?_⟩ <;> first | omega | (rw [Int.toNat_zero]; omega)) | (simp only [length_limbs, length_la, Nat.mul_one, List.length_set, List.length_take, List.length_drop, List.length_replicate]; exact Nat.le_refl _)) ?_)
  · rename_i h0
    refine ⟨_, ⟨n, i + 1, _, rfl, hn, by omega, ?_, ?_, ?_, rfl, rfl⟩, by omega⟩
    · simp [hl]
    · have hc := shl_carry hx2 hs
      have hd := shl_div (x := at_ A i) hs hc
      rw [or_add hc, nv_set0 (by omega) (hz _ (by omega)) (by omega), nv_take_succ', ← at_nat, show q + (i + 1) = q + i + 1 from rfl, Pw_succ, show ((i + 1 : Nat) : Int) - 1 = i by omega, ← hd]
      have h5 := limb_step (Pw (q + i)) (at_ A i * 2 ^ s + at_ A (i - 1) * 2 ^ s / 4294967296)
      have h6 : Pw q * ((nv (A.take i) + Pw i * at_ A i) * 2 ^ s) = Pw q * (nv (A.take i) * 2 ^ s) + Pw (q + i) * (at_ A i * 2 ^ s) := by
        rw [Pw_add]; grind
      rw [h6]
      rw [Nat.mul_add] at h5
      omega
    · intro j hj
      rw [getD_set_ne (by omega)]; exact hz j (by omega)
  · rename_i h0
    have e : i = A.length + 1 := by omega
    have e0 : at_ A (i - 1) = 0 := by rw [show (i : Int) - 1 = ((A.length : Nat) : Int) by omega, at_nat, getD_big (by omega)]
    rw [e0, List.take_of_length_le (by omega), hvA] at hv
    show sl _ = sl _
    rw [hN, ← Pw_shift, show nv l = Pw q * (nv a * 2 ^ s) by simpa using hv]
    congr 2; grind

theorem down_sim (a : List UInt32) (n : Int) (ha : a.length < 2^30) (hn : n ≤ 2^60) : Sim Tryz.prog G0 false 202 [sl a, .int .i64 n] (sl (ofN (nv a / 2 ^ n.toNat))) := by
  refine sim_mk tab_ok Tryz.func202 rfl (by kernel_rfl) rfl ⟨Nat.le_of_ble_eq_true rfl, Nat.le_of_ble_eq_true rfl⟩ ?_
  have h1 := ofN_len_nv a
  repeat' ((conv => whnf); first
    | with_reducible refine CallX.data ?_
    | refine CallE.mk _ _ (cut_sim _ (by omega)) ?_
    | refine RegE.early (Cd.mk (show regOk _ _ _ _ = true by kernel_rfl) ?_)
    | refine Cd.mk rfl ?_
    | with_reducible refine Br.dec (fun _ => ?_) (fun _ => ?_)
    | refine Res.mk ?_
    | ((with_reducible refine EqE.idW ?_); first | refine EqE.mk _ (n_quo _ 32 (by omega)) ?_ | with_reducible refine EqE.mk _ (wrap_in (by omega) (by omega)) ?_)
    | ((with_reducible refine EqE.idM ?_); refine EqE.mk _ (n_rem _ 32) ?_)
    | ((with_reducible refine EqE.idI ?_); refine EqE.mk _ (max0 _) ?_)
    | ((with_reducible refine EqE.idR ?_); refine EqE.mk _ (la_rep _) ?_)
    | refine Cd.mk (by first | omega | (dsimp only; omega) | (simp only [length_limbs, length_la, Nat.mul_one, List.length_set, List.length_take, List.length_drop, List.length_replicate, List.length_append, Int.toNat_natCast]; omega) | (rw [length_la, Nat.mul_one]) | (rw [length_limbs, Nat.mul_one]) | (refine ⟨⟨Int.le_refl _, ?_⟩, ?_⟩ <;> first | omega | (rw [Int.toNat_zero]; omega)) | (simp only [length_limbs, length_la, Nat.mul_one, List.length_set, List.length_take, List.length_drop, List.length_replicate]; exact Nat.le_refl _)) ?_)
  · rename_i h
    have h2 := nv_lt (ofN (nv a))
    rw [nv_ofN] at h2
    have : nv a < 2 ^ n.toNat := Nat.lt_of_lt_of_le h2 (by rw [Pw_two]; exact Nat.pow_le_pow_right (by decide) (by omega))
    show sl _ = sl []
    rw [Nat.div_eq_of_lt this, ofN_zero]
  rename_i h
  generalize hA : ofN (nv a) = A at *
  have hvA : nv A = nv a := by rw [← hA, nv_ofN]
  have hs : n.toNat % 32 < 32 := Nat.mod_lt _ (by decide)
  have hN : n.toNat = 32 * (n.toNat / 32) + n.toNat % 32 := (Nat.div_add_mod _ _).symm
  generalize hqe : n.toNat / 32 = q at *
  generalize hse : n.toNat % 32 = s at *
  skip
  refine ⟨[], [0,5,6,7,27,28], [25], fun m xs h => ∃ (n i : Nat) (l : List UInt32), m = n - i ∧ n + q = A.length ∧ i ≤ n ∧ l.length = n ∧ nv l = (nv (A.drop q) / 2 ^ s) % Pw i ∧ (∀ j, i ≤ j → (l.getD j 0).toNat = 0) ∧
    xs = [.d (sl A), .d (.int .i64 q), .d (.int .i64 s), .own 25 0 n 1, .d (.int .i64 n), .d (.int .i64 i)] ∧ h = [(25, false, la l)],
    ⟨_, _, _, ⟨.inl rfl, rfl, rfl, by first | rfl | (repeat first | exact all_nil _ | refine all_la _ _ _ _ _ ?_)⟩, _, 0, _, rfl, ?_, by omega, by simp, ?_, fun j _ => getD_rep _ _, rfl, rfl⟩, ?_⟩
  · omega
  · rw [nv_replicate, Pw_zero, Nat.mod_one]
  rintro m xs h ⟨n, i, l, rfl, hn, hi, hl, hv, hz, rfl, rfl⟩
  have hx1 := at_lt A ((q + i : Nat) : Int)
  have hx2 := at_lt A ((q + i + 1 : Nat) : Int)
  repeat' ((conv => whnf); first
    | with_reducible refine CallX.data ?_
    | refine CallE.mk _ _ (at_sim _ _) ?_
    | refine CallE.mk _ _ (cut_sim _ (by omega)) ?_
    | refine RegE.early (Cd.mk (show regOk _ _ _ _ = true by kernel_rfl) ?_)
    | refine Cd.mk rfl ?_
    | with_reducible refine Br.dec (fun _ => ?_) (fun _ => ?_)
    | refine Res.mk ?_
    | refine DsE.mk (limbs _) rfl ?_
    | refine LoopEnd.go _ _ ⟨.inl rfl, rfl, rfl, by first | rfl | (repeat first | exact all_nil _ | refine all_la _ _ _ _ _ ?_)⟩ ?_
    | ((with_reducible refine EqE.idW ?_); first | with_reducible refine EqE.mk _ (n_shl32 _ (by omega)) ?_ | with_reducible refine EqE.mk _ (n_or _ _ (by omega) (by omega)) ?_ | with_reducible refine EqE.mk _ (n_u32 _) ?_ | with_reducible refine EqE.mk _ (n_i64 _ (by omega)) ?_ | with_reducible refine EqE.mk _ (n_succ _ (by omega)) ?_)
    | ((with_reducible refine EqE.idF ?_); with_reducible refine EqE.mk _ (n_shrv _ _ (by omega)) ?_)
    | ((with_reducible refine EqE.idS ?_); refine EqE.mk _ (la_setN _ _ _ _ (by first | with_reducible exact own_ix _ | with_reducible exact own_ixI _ | exact own_ix _ | exact own_ixI _ | rfl) (by first | omega | (simp only [List.length_set]; omega)) (by omega)) ?_)
    | ((with_reducible refine EqE.idL ?_); refine EqE.mk _ (sl_own _ _ _ _ (by omega) (by omega) rfl) ?_)
    | refine Cd.mk (by first | omega | (dsimp only; omega) | (simp only [length_limbs, length_la, Nat.mul_one, List.length_set, List.length_take, List.length_drop, List.length_replicate, List.length_append, Int.toNat_natCast]; omega) | (rw [length_la, Nat.mul_one]) | (rw [length_limbs, Nat.mul_one]) | (refine ⟨⟨Int.le_refl _, ?_⟩, ?_⟩ <;> first | omega | (rw [Int.toNat_zero]; omega)) | (simp only [length_limbs, length_la, Nat.mul_one, List.length_set, List.length_take, List.length_drop, List.length_replicate]; exact Nat.le_refl _)) ?_)
  · rename_i h0
    refine ⟨_, ⟨n, i + 1, _, rfl, hn, by omega, ?_, ?_, ?_, rfl, rfl⟩, by omega⟩
    · simp [hl]
    · rw [or_add32 hx1, nv_set0 (by omega) (hz _ (by omega)) (by omega), at_nat, at_nat, down_digit (z := nv (A.drop (q + i + 1 + 1))) hs, ← nv_drop', ← nv_drop', hv, Pw_succ, Nat.mul_comm 4294967296, Nat.mod_mul,
        nv_drop_div, nv_drop_div, Pw_add]
      have e : Pw q * Pw i * 2 ^ s = Pw q * 2 ^ s * Pw i := by grind
      simp only [Nat.div_div_eq_div_mul, e]
    · intro j hj
      rw [getD_set_ne (by omega)]; exact hz j (by omega)
  · rename_i h0
    have e : i = n := by omega
    have h2 := nv_lt (A.drop q)
    rw [List.length_drop, show A.length - q = n by omega] at h2
    have h3 := Nat.div_le_self (nv (A.drop q)) (2 ^ s)
    show sl _ = sl _
    rw [hv, e, Nat.mod_eq_of_lt (by omega), nv_drop_div, hvA, Nat.div_div_eq_div_mul, Pw_shift, ← hN]

theorem held_sim (n : Int) : Sim Tryz.prog G0 true 238 [.int .i64 n] (.int .i64 (min (max n 0) 100000)) := by
  refine sim_mk tab_ok Tryz.func238 rfl (by kernel_rfl) rfl ⟨Nat.le_of_ble_eq_true rfl, Nat.le_of_ble_eq_true rfl⟩ ?_
  repeat' ((conv => whnf); first
    | refine RegE.early (Cd.mk (show regOk _ _ _ _ = true by kernel_rfl) ?_)
    | refine Res.mk ?_
    | ((with_reducible refine EqE.idI ?_); first | refine EqE.mk _ (max0 _) ?_ | refine EqE.mk _ (min_eq _ _) ?_))
  show D.int _ _ = D.int _ _
  congr 1; omega
theorem shl_sim (a : List UInt32) (n : Int) (ha : a.length < 2^30) (hn : n ≤ 100000) : Sim Tryz.prog G0 false 235 [sl a, .int .i64 n] (sl (ofN (nv a * 2 ^ n.toNat))) := by
  refine sim_mk tab_ok Tryz.func235 rfl (by kernel_rfl) rfl ⟨Nat.le_of_ble_eq_true rfl, Nat.le_of_ble_eq_true rfl⟩ ?_
  repeat' ((conv => whnf); first
    | with_reducible refine CallX.data ?_
    | refine CallE.mk _ _ (held_sim _) ?_
    | refine CallE.mk _ _ (up_sim _ _ (by omega) (by omega)) ?_
    | refine RegE.early (Cd.mk (show regOk _ _ _ _ = true by kernel_rfl) ?_)
    | refine Res.mk ?_)
  show sl _ = sl _
  rw [show (min (max n 0) 100000).toNat = n.toNat by omega]
theorem shr_sim (a : List UInt32) (n : Int) (ha : a.length < 2^30) (hn : n ≤ 100000) : Sim Tryz.prog G0 false 237 [sl a, .int .i64 n] (sl (ofN (nv a / 2 ^ n.toNat))) := by
  refine sim_mk tab_ok Tryz.func237 rfl (by kernel_rfl) rfl ⟨Nat.le_of_ble_eq_true rfl, Nat.le_of_ble_eq_true rfl⟩ ?_
  repeat' ((conv => whnf); first
    | with_reducible refine CallX.data ?_
    | refine CallE.mk _ _ (held_sim _) ?_
    | refine CallE.mk _ _ (down_sim _ _ (by omega) (by omega)) ?_
    | refine RegE.early (Cd.mk (show regOk _ _ _ _ = true by kernel_rfl) ?_)
    | refine Res.mk ?_)
  show sl _ = sl _
  rw [show (min (max n 0) 100000).toNat = n.toNat by omega]
end Go.Ev.Ar

namespace Go.Ev.Ar
open Go Go.Ev Go.Proofs

theorem tz_ix (x : Nat) : (0 : Int) ≤ ((x % 4294967296 / 134217728 : Nat) : Int) ∧ ((x % 4294967296 / 134217728 : Nat) : Int) < ((32 : Nat) : Int) := ⟨Int.natCast_nonneg _, Int.ofNat_lt.2 (deB_lt x)⟩
theorem tz32_sim (x : UInt32) (hx : x.toNat ≠ 0) : Sim Tryz.prog G0 true 222 [.int .u32 x.toNat] (.int .i64 (tzn x.toNat)) := by
  refine sim_mk tab_ok Tryz.func222 rfl (by kernel_rfl) rfl ⟨Nat.le_of_ble_eq_true rfl, Nat.le_of_ble_eq_true rfl⟩ ?_
  have h1 := u32_lt x
  have ht := tzn_lt (k := 32) hx h1
  repeat' ((conv => whnf); first
    | refine NthE.mk _ (deB_get _ _ (deB_lt _) (deB_tz _ ht)) ?_
    | refine Cd.mk (tz_ix _) ?_
    | refine RegE.early (Cd.mk (show regOk _ _ _ _ = true by kernel_rfl) ?_)
    | refine Cd.mk rfl ?_
    | with_reducible refine Br.dec (fun _ => ?_) (fun _ => ?_)
    | refine Res.mk ?_
    | ((with_reducible refine EqE.idW ?_); first | with_reducible refine EqE.mk _ (n_neg32 _ h1) ?_ | with_reducible refine EqE.mk _ (n_low32 _ hx h1) ?_ | refine EqE.mk _ (n_mul32 _ 125613361) ?_ | with_reducible refine EqE.mk _ (n_i64 _ (by omega)) ?_)
    | ((with_reducible refine EqE.idF ?_); refine EqE.mk _ (n_shr _ 134217728 _ _ rfl) ?_)
    | refine Cd.mk (by first | omega | (dsimp only; omega) | (simp only [length_limbs, length_la, Nat.mul_one, List.length_set, List.length_take, List.length_drop, List.length_replicate, List.length_append, Int.toNat_natCast]; omega) | (rw [length_la, Nat.mul_one]) | (rw [length_limbs, Nat.mul_one]) | (refine ⟨⟨Int.le_refl _, ?_⟩, ?_⟩ <;> first | omega | (rw [Int.toNat_zero]; omega)) | (simp only [length_limbs, length_la, Nat.mul_one, List.length_set, List.length_take, List.length_drop, List.length_replicate]; exact Nat.le_refl _)) ?_)
  · rename_i h; exact absurd (by omega) hx
  · rfl

theorem low_sim (a : List UInt32) (ha : a.length < 2^30) (h0 : nv a ≠ 0) : Sim Tryz.prog G0 true 201 [sl a] (.int .i64 (tzn (nv a))) := by
  refine sim_mk tab_ok Tryz.func201 rfl (by kernel_rfl) rfl ⟨Nat.le_of_ble_eq_true rfl, Nat.le_of_ble_eq_true rfl⟩ ?_
  repeat' ((conv => whnf); first
    | refine RegE.early (Cd.mk (show regOk _ _ _ _ = true by kernel_rfl) ?_))
  refine ⟨[], [5,6,7], [], fun m xs h => ∃ (i : Nat), m = a.length - i ∧ i ≤ a.length ∧ nv (a.take i) = 0 ∧
    xs = [.d (sl a), .d (.int .i64 a.length), .d (.int .i64 i)] ∧ h = [],
    ⟨_, _, _, ⟨.inl rfl, rfl, rfl, by first | rfl | (repeat first | exact all_nil _ | refine all_la _ _ _ _ _ ?_)⟩, 0, rfl, by omega, rfl, rfl, rfl⟩, ?_⟩
  rintro m xs h ⟨i, rfl, hi, hv, rfl, rfl⟩
  repeat' ((conv => whnf); first
    | with_reducible refine CallX.data ?_
    | refine CallE.mk _ _ (tz32_sim _ (by omega)) ?_
    | refine RegE.early (Cd.mk (show regOk _ _ _ _ = true by kernel_rfl) ?_)
    | refine Cd.mk rfl ?_
    | with_reducible refine Br.dec (fun _ => ?_) (fun _ => ?_)
    | with_reducible refine Br.ndec (fun _ => ?_) (fun _ => ?_)
    | refine NthE.mk _ (limbs_dropN _ _ (by omega)) ?_
    | refine Res.mk ?_
    | refine LoopEnd.go _ _ ⟨.inl rfl, rfl, rfl, by first | rfl | (repeat first | exact all_nil _ | refine all_la _ _ _ _ _ ?_)⟩ ?_
    | ((with_reducible refine EqE.idW ?_); first | with_reducible refine EqE.mk _ (n_succ _ (by omega)) ?_ | with_reducible refine EqE.mk _ (wrap_in (by omega) (by omega)) ?_ | refine EqE.mk _ rfl ?_)
    | refine Cd.mk (by first | omega | (dsimp only; omega) | (simp only [length_limbs, length_la, Nat.mul_one, List.length_set, List.length_take, List.length_drop, List.length_replicate, List.length_append, Int.toNat_natCast]; omega) | (rw [length_la, Nat.mul_one]) | (rw [length_limbs, Nat.mul_one]) | (refine ⟨⟨Int.le_refl _, ?_⟩, ?_⟩ <;> first | omega | (rw [Int.toNat_zero]; omega)) | (simp only [length_limbs, length_la, Nat.mul_one, List.length_set, List.length_take, List.length_drop, List.length_replicate]; exact Nat.le_refl _)) ?_)
  · rename_i h1 h2
    have h3 := u32_lt (a.getD i 0)
    have h4 : (a.getD i 0).toNat ≠ 0 := by omega
    have h5 := tzn_lt (k := 32) h4 h3
    have h6 := nv_take_drop a i hi
    rw [hv, Nat.zero_add, nv_drop' a i, Pw_two] at h6
    have h7 : (a.getD i 0).toNat + 4294967296 * nv (a.drop (i + 1)) ≠ 0 := by omega
    have h8 := tzn_add (k := 32) (b := nv (a.drop (i + 1))) h4 h3
    show D.int _ _ = D.int _ _
    rw [wrap_in (by omega) (by omega), h6, tzn_shift _ h7]
    congr 1
    have h9 : tzn ((a.getD i 0).toNat + 4294967296 * nv (a.drop (i + 1))) = tzn (a.getD i 0).toNat := h8
    rw [h9]; omega
  · rename_i h1 h2
    refine ⟨_, ⟨i + 1, rfl, by omega, ?_, rfl, rfl⟩, by omega⟩
    rw [nv_take_succ', hv, show (a.getD i 0).toNat = 0 by omega]; rfl
  · rename_i h1
    rw [List.take_of_length_le (by omega)] at hv
    exact absurd hv h0
end Go.Ev.Ar
