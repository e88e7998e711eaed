/- Contracts of the given functions, on data. Conditions stand in each theorem. -/
import Derived.Test.YtagjickjfjgfpaaGreatDoorGAvNatH
import Derived.Test.YtagjickjfjgfpaaGreatDoorGAvTab
import Derived.Test.YtagjickjfjgfpaaGreatDoorGAvZ
import Derived.Test.YtagjickjfjgfpaaGreatDoorGEvU
set_option linter.unusedSimpArgs false
set_option linter.unusedVariables false
namespace Go.Ev.Ar
open Go Go.Ev Go.Proofs

theorem w_dec (j : Nat) (h : 1 ≤ j) (hj : j < 4611686018427387904) : IntKind.i64.wrap ((j : Int) - 1 - 1) = ((j - 1 : Nat) : Int) - 1 := by
  rw [wrap_in (by omega) (by omega)]; omega
theorem lt_mul_B {r d x : Nat} (hr : r < d) (hx : x < 4294967296) : r * 4294967296 + x < 4294967296 * d := by omega
theorem short_step {D Q r d x : Nat} (h : D = Q * d + r) : x + 4294967296 * D = ((r * 4294967296 + x) / d + 4294967296 * Q) * d + (r * 4294967296 + x) % d := by
  have h1 := Nat.div_add_mod (r * 4294967296 + x) d
  rw [Nat.add_mul, Nat.mul_assoc, Nat.mul_comm _ d, h]
  omega
theorem nv_drop_set (l : List UInt32) (j v : Nat) (hj : 1 ≤ j) (hl : j ≤ l.length) (hv : v < 4294967296) : nv ((l.set (j - 1) (UInt32.ofNat v)).drop (j - 1)) = v + 4294967296 * nv (l.drop j) := by
  rw [nv_drop', getD_set_self (by omega), toNat_ofNat hv, show j - 1 + 1 = j by omega]
  have := drop_set_succ l (j - 1) (UInt32.ofNat v)
  rw [show j - 1 + 1 = j by omega] at this
  rw [this]
theorem one_limb (v : Nat) (h : v < 4294967296) : [A.d (D.int .u32 (v : Nat))] = (limbs [UInt32.ofNat v]).map A.d := by
  simp only [limbs, List.map_cons, List.map_nil, toNat_ofNat h]
set_option maxHeartbeats 2000000 in
theorem short_sim (a : List UInt32) (d : Nat) (ha : a.length < 2^30) (hd : 0 < d) (hd2 : d < 4294967296) : Sim Tryz.prog G0 false 233 [sl a, .int .u32 d] (.tup [sl (ofN (nv a / d)), sl (ofN (nv a % d))]) := by
  refine sim_mk tab_ok Tryz.func233 rfl (by kernel_rfl) rfl ⟨Nat.le_of_ble_eq_true rfl, Nat.le_of_ble_eq_true rfl⟩ ?_
  repeat' ((conv => whnf); first
    | refine RegE.early (Cd.mk (show regOk _ _ _ _ = true by kernel_rfl) ?_)
    | refine Cd.mk rfl ?_
    | ((with_reducible refine EqE.idW ?_); with_reducible refine EqE.mk _ (wrap_in (by omega) (by omega)) ?_)
    | ((with_reducible refine EqE.idR ?_); refine EqE.mk _ (la_rep _) ?_)
    | refine Cd.mk (by first | omega | (dsimp only; omega) | (simp only [length_limbs, length_la, Nat.mul_one, List.length_set, List.length_take, List.length_drop, List.length_replicate, List.length_append, Int.toNat_natCast]; omega) | (rw [length_la, Nat.mul_one]) | (rw [length_limbs, Nat.mul_one]) | (refine ⟨⟨Int.le_refl _, ?_⟩, ?_⟩ <;> first | omega | (rw [Int.toNat_zero]; omega)) | (simp only [length_limbs, length_la, Nat.mul_one, List.length_set, List.length_take, List.length_drop, List.length_replicate]; exact Nat.le_refl _)) ?_)
  refine ⟨[], [0, 1, 6, 7, 8], [11], fun m xs h => ∃ (j r : Nat) (Q : List UInt32), m = j ∧ j ≤ a.length ∧ r < d ∧ Q.length = a.length ∧ nv (a.drop j) = nv (Q.drop j) * d + r ∧
    xs = [.d (sl a), .d (.int .u32 d), .own 11 0 a.length 1, .d (.int .u64 r), .d (.int .i64 ((j : Int) - 1))] ∧ h = [(11, false, la Q)],
    ⟨_, _, _, ⟨.inl rfl, rfl, rfl, by first | rfl | (repeat first | exact all_nil _ | refine all_la _ _ _ _ _ ?_)⟩, a.length, 0, List.replicate a.length 0, rfl, Nat.le_refl _, hd, by simp, by simp, rfl, rfl⟩, ?_⟩
  rintro j xs h ⟨_, r, Q, rfl, hj, hr, hQ, hv, rfl, rfl⟩
  have hx := u32_lt (a.getD (j - 1) 0)
  have hlt := lt_mul_B hr hx
  by_cases h1 : 1 ≤ j
  · have hq := Nat.div_lt_of_lt_mul (show r * 4294967296 + (a.getD (j - 1) 0).toNat < d * 4294967296 by omega)
    have hm := Nat.mod_lt (r * 4294967296 + (a.getD (j - 1) 0).toNat) hd
    repeat' ((conv => whnf); first
      | with_reducible refine Br.dec (fun _ => ?_) (fun h => absurd (by omega) h)
      | refine NthE.mk _ (limbs_at a _ (j - 1) (by omega) (by omega)) ?_
      | refine Cd.mk (la_room [] Q _ (j - 1) (by omega) (by omega)) ?_
      | refine RegE.early (Cd.mk (show regOk _ _ _ _ = true by kernel_rfl) ?_)
      | refine Cd.mk rfl ?_
      | refine LoopEnd.go _ _ ⟨.inl rfl, rfl, rfl, by first | rfl | (repeat first | exact all_nil _ | refine all_la _ _ _ _ _ ?_)⟩ ?_
      | ((with_reducible refine EqE.idW ?_); first | refine EqE.mk _ (w_dec _ h1 (by omega)) ?_ | with_reducible refine EqE.mk _ (n_orhi _ _ (by omega) (by omega)) ?_ | with_reducible refine EqE.mk _ (n_quo64 _ _ (by omega)) ?_ | with_reducible refine EqE.mk _ (wrap_u64_u32 _) ?_ | with_reducible refine EqE.mk _ (n_shl32 _ (by omega)) ?_ | with_reducible refine EqE.mk _ (n_u32 _) ?_ | with_reducible refine EqE.mk _ (n_u64 _ (by omega)) ?_)
      | ((with_reducible refine EqE.idM ?_); refine EqE.mk _ (n_rem _ _) ?_)
      | ((with_reducible refine EqE.idS ?_); refine EqE.mk _ (la_setA [] Q _ (j - 1) _ (by omega) (by omega) (by omega)) ?_)
      | refine Cd.mk (by first | omega | (dsimp only; omega) | (simp only [length_limbs, length_la, Nat.mul_one, List.length_set, List.length_take, List.length_drop, List.length_replicate, List.length_append, Int.toNat_natCast]; omega) | (rw [length_la, Nat.mul_one]) | (rw [length_limbs, Nat.mul_one]) | (refine ⟨⟨Int.le_refl _, ?_⟩, ?_⟩ <;> first | omega | (rw [Int.toNat_zero]; omega)) | (simp only [length_limbs, length_la, Nat.mul_one, List.length_set, List.length_take, List.length_drop, List.length_replicate]; exact Nat.le_refl _)) ?_)
    generalize hxe : (a.getD (j - 1) 0).toNat = x at *
    refine ⟨_, ⟨j - 1, (r * 4294967296 + x) % d, Q.set (j - 1) (UInt32.ofNat ((r * 4294967296 + x) / d % 4294967296)), rfl, by omega, hm, by rw [List.length_set]; omega, ?_, rfl, rfl⟩, by omega⟩
    rw [Nat.mod_eq_of_lt hq, nv_drop_set _ _ _ h1 (by omega) hq, nv_drop', hxe, show j - 1 + 1 = j by omega]
    exact short_step hv
  · obtain rfl : j = 0 := by omega
    have hrl : nv [UInt32.ofNat (r % 4294967296)] = r := by rw [nv_cons, nv_nil, toNat_ofNat (Nat.mod_lt _ (by decide))]; omega
    rw [List.drop_zero, List.drop_zero] at hv
    repeat' ((conv => whnf); first
      | with_reducible refine CallX.data ?_
      | with_reducible refine Br.dec (fun h => absurd h (by omega)) (fun _ => ?_)
      | refine CallE.mk _ _ (cut_sim Q (by omega)) ?_
      | refine DsE.mk _ (one_limb (r % 4294967296) (Nat.mod_lt _ (by decide))) ?_
      | refine CallE.mk _ _ (cut_sim [UInt32.ofNat (r % 4294967296)] (show 1 < 2^40 by decide)) ?_
      | refine RegE.early (Cd.mk (show regOk _ _ _ _ = true by kernel_rfl) ?_)
      | refine Cd.mk rfl ?_
      | refine Res.mk ?_
      | refine DsE.mk (limbs _) rfl ?_
      | ((with_reducible refine EqE.idW ?_); with_reducible refine EqE.mk _ (n_u32 _) ?_)
      | ((with_reducible refine EqE.idL ?_); first | refine EqE.mk (sl [UInt32.ofNat (r % 4294967296)]) rfl ?_ | refine EqE.mk _ (sl_own _ _ _ _ (by omega) (by omega) rfl) ?_)
      | refine Cd.mk (Nat.le_of_ble_eq_true rfl) ?_)
    have hqr : nv Q = nv a / d ∧ r = nv a % d := by
      rw [hv]
      refine ⟨?_, ?_⟩
      · rw [Nat.mul_comm, Nat.mul_add_div hd, Nat.div_eq_of_lt hr]; rfl
      · rw [Nat.mul_comm, Nat.mul_add_mod, Nat.mod_eq_of_lt hr]
    rw [← hqr.1, ← hqr.2, hrl]
    rfl
/-- The bits that a limb lacks. -/
theorem lz_sim (x : UInt32) : Sim Tryz.prog G0 true 234 [.int .u32 x.toNat] (.int .i64 ((32 - nb x.toNat : Nat) : Int)) := by
  have h : nb x.toNat ≤ 32 := nb_le.2 (u32_lt x)
  refine sim_mk tab_ok Tryz.func234 rfl (by kernel_rfl) rfl ⟨Nat.le_of_ble_eq_true rfl, Nat.le_of_ble_eq_true rfl⟩ ?_
  repeat' ((conv => whnf); first
    | with_reducible refine CallX.data ?_
    | refine CallE.mk _ _ (len32_sim x) ?_
    | refine RegE.early (Cd.mk (show regOk _ _ _ _ = true by kernel_rfl) ?_)
    | refine Cd.mk rfl ?_
    | refine Res.mk ?_
    | ((with_reducible refine EqE.idW ?_); with_reducible refine EqE.mk _ (wrap_in (by omega) (by omega)) ?_))
  show D.int _ _ = D.int _ _
  congr 1; omega
/-- A divisor, its topmost bit moved to a limb's top. -/
theorem norm_top {b : Nat} (hb : b ≠ 0) : let s := 32 - nb ((ofN b).getD ((ofN b).length - 1) 0).toNat
    s ≤ 31 ∧ (ofN (b * 2 ^ s)).length = (ofN b).length ∧ 2147483648 ≤ ((ofN (b * 2 ^ s)).getD ((ofN (b * 2 ^ s)).length - 1) 0).toNat := by
  intro s
  have hl : 0 < (ofN b).length := by
    have : ¬ (ofN b).length = 0 := fun h => hb (ofN_len_zero.1 h)
    omega
  have h1 := nb_top hb
  have ht := u32_lt ((ofN b).getD ((ofN b).length - 1) 0)
  have hnz : ((ofN b).getD ((ofN b).length - 1) 0).toNat ≠ 0 := by
    intro h
    have := (cutOk_iff _).1 (cutOk_ofN b)
    rcases this with h2 | h2
    · rw [h2] at hl; simp at hl
    · exact h2 h
  generalize hT : ((ofN b).getD ((ofN b).length - 1) 0).toNat = T at *
  have hn1 : 1 ≤ nb T := by
    apply Classical.byContradiction; intro h
    have : nb T ≤ 0 := by omega
    have := nb_le.1 this
    omega
  have hn2 : nb T ≤ 32 := nb_le.2 ht
  have hb2 : b * 2 ^ s ≠ 0 := by
    have := Nat.mul_pos (Nat.pos_of_ne_zero hb) (Nat.pow_pos (n := s) (show 0 < 2 by decide))
    omega
  have hnb : nb (b * 2 ^ s) = nb b + s := by
    have h2 : 2 ^ s ≤ b * 2 ^ s := by
      have := Nat.mul_le_mul_right (2 ^ s) (Nat.pos_of_ne_zero hb)
      rwa [Nat.one_mul] at this
    rw [nb_div h2, Nat.mul_div_cancel _ (Nat.pow_pos (by decide)), Nat.add_comm]
  have h3 := nb_top hb2
  have hl2 : 0 < (ofN (b * 2 ^ s)).length := by
    have : ¬ (ofN (b * 2 ^ s)).length = 0 := fun h => hb2 (ofN_len_zero.1 h)
    omega
  have ht2 := u32_lt ((ofN (b * 2 ^ s)).getD ((ofN (b * 2 ^ s)).length - 1) 0)
  have hnz2 : ((ofN (b * 2 ^ s)).getD ((ofN (b * 2 ^ s)).length - 1) 0).toNat ≠ 0 := by
    intro h
    have := (cutOk_iff _).1 (cutOk_ofN (b * 2 ^ s))
    rcases this with h2 | h2
    · rw [h2] at hl2; simp at hl2
    · exact h2 h
  generalize hT2 : ((ofN (b * 2 ^ s)).getD ((ofN (b * 2 ^ s)).length - 1) 0).toNat = T2 at *
  have hm1 : 1 ≤ nb T2 := by
    apply Classical.byContradiction; intro h
    have : nb T2 ≤ 0 := by omega
    have := nb_le.1 this
    omega
  have hm2 : nb T2 ≤ 32 := nb_le.2 ht2
  have hs : s = 32 - nb T := by
    show 32 - nb ((ofN b).getD ((ofN b).length - 1) 0).toNat = _
    rw [hT]
  have hlen : (ofN (b * 2 ^ s)).length = (ofN b).length := by omega
  refine ⟨by omega, hlen, ?_⟩
  have h32 : nb T2 = 32 := by omega
  have := nb_ge hnz2
  rw [h32] at this
  exact this
theorem lead_lt {a b la lb S : Nat} (ha : a < Pw la) (hb : Pw (lb - 1) ≤ b) (hlb : 1 ≤ lb) (hle : lb ≤ la) (hS : 0 < S) : a * S / Pw (la - lb + 1) < b * S := by
  refine Nat.div_lt_of_lt_mul ?_
  have h1 : Pw la = Pw (la - lb + 1) * Pw (lb - 1) := by rw [← Pw_add]; congr 1; omega
  have h2 : Pw (la - lb + 1) * Pw (lb - 1) ≤ Pw (la - lb + 1) * b := Nat.mul_le_mul_left _ hb
  have h3 : a < Pw (la - lb + 1) * b := by omega
  have := Nat.mul_lt_mul_of_pos_right h3 hS
  rwa [Nat.mul_assoc] at this
/-- One limb of the quotient more. -/
theorem div_limb {U Q v : List UInt32} {L M j N : Nat} (hU : L ≤ U.length) (hQ : Q.length = M) (hj : 1 ≤ j) (hjM : j ≤ M) (hL : L = M - 1 + v.length + 1) (h1 : 1 ≤ M) (hV : 0 < nv v)
    (hN : nv (U.take L) + nv v * (Pw j * nv (Q.drop j)) = N) (hlt : nv ((U.take L).drop j) < nv v) :
    nv ((U.drop (j - 1)).take (v.length + 1)) < 4294967296 * nv v ∧ nv ((U.drop (j - 1)).take (v.length + 1)) / nv v < 4294967296 ∧ (U.take (j - 1) ++ stepW (U.drop (j - 1)) v).length = U.length ∧
    nv ((U.take (j - 1) ++ stepW (U.drop (j - 1)) v).take L) + nv v * (Pw (j - 1) * nv ((Q.set (j - 1) (UInt32.ofNat (nv ((U.drop (j - 1)).take (v.length + 1)) / nv v))).drop (j - 1))) = N ∧
    nv (((U.take (j - 1) ++ stepW (U.drop (j - 1)) v).take L).drop (j - 1)) < nv v := by
  obtain ⟨k, rfl⟩ : ∃ k, j = k + 1 := ⟨j - 1, by omega⟩
  rw [Nat.add_sub_cancel] at *
  obtain ⟨W, hW⟩ : ∃ W, W = U.drop k := ⟨_, rfl⟩
  have hWl : W.length = U.length - k := by rw [hW]; simp
  -- the window, and what lies above it
  have e1 : (U.take L).drop k = W.take (L - k) := by rw [List.drop_take, hW]
  have e2 : (U.take L).drop (k + 1) = (W.take (L - k)).drop 1 := by rw [← e1, List.drop_drop]
  have hnL : v.length + 1 ≤ L - k := by omega
  have hVn : nv v < Pw v.length := nv_lt v
  have h3 : nv (W.take (L - k)) = ((W.take (L - k)).getD 0 0).toNat + 4294967296 * nv ((U.take L).drop (k + 1)) := by
    have := nv_drop' (W.take (L - k)) 0
    rw [List.drop_zero] at this
    rw [this, e2]
  have h4 := u32_lt ((W.take (L - k)).getD 0 0)
  have hw : nv (W.take (L - k)) < 4294967296 * nv v := by omega
  have h5 := nv_take_drop (W.take (L - k)) (v.length + 1) (by rw [List.length_take]; omega)
  rw [List.take_take, Nat.min_eq_left hnL] at h5
  have h6 : nv ((W.take (L - k)).drop (v.length + 1)) = 0 := by
    apply Classical.byContradiction
    intro h
    have h7 := Nat.mul_le_mul_left (Pw (v.length + 1)) (Nat.pos_of_ne_zero h)
    have h8 := Pw_succ v.length
    omega
  rw [h6, Nat.mul_zero, Nat.add_zero] at h5
  rw [h5] at hw
  have hql : nv (W.take (v.length + 1)) / nv v < 4294967296 := Nat.div_lt_of_lt_mul (by rw [Nat.mul_comm]; exact hw)
  have hml := Nat.mod_lt (nv (W.take (v.length + 1))) hV
  have hpl : nv (W.take (v.length + 1)) % nv v < Pw (v.length + 1) := Nat.lt_trans hml (Nat.lt_of_lt_of_le hVn (Pw_mono (by omega)))
  rw [← hW]
  have hsl : (stepW W v).length = W.length := by unfold stepW; rw [List.length_append, padN_len hpl, List.length_drop]; omega
  -- the new window
  have hst : (stepW W v).take (L - k) = padN (nv (W.take (v.length + 1)) % nv v) (v.length + 1) ++ (W.take (L - k)).drop (v.length + 1) := by
    unfold stepW
    rw [List.take_append, padN_len hpl, List.take_of_length_le (by rw [padN_len hpl]; omega), List.drop_take]
  have hsn : nv ((stepW W v).take (L - k)) = nv (W.take (v.length + 1)) % nv v := by
    rw [hst, nv_append, nv_padN, padN_len hpl, h6, Nat.mul_zero, Nat.add_zero]
  have hkL : (U.take k).length = k := by rw [List.length_take]; omega
  have hT : (U.take k ++ stepW W v).take L = U.take k ++ (stepW W v).take (L - k) := by
    rw [List.take_append, hkL, List.take_of_length_le (by rw [hkL]; omega)]
  have hTd : ((U.take k ++ stepW W v).take L).drop k = (stepW W v).take (L - k) := by
    rw [hT, List.drop_append, hkL, Nat.sub_self, List.drop_zero, List.drop_of_length_le (by rw [hkL]; omega), List.nil_append]
  refine ⟨hw, hql, by rw [List.length_append, hkL, hsl, hWl]; omega, ?_, ?_⟩
  · rw [hT, nv_append, hkL, hsn]
    have h9 := nv_drop_set Q (k + 1) (nv (W.take (v.length + 1)) / nv v) (by omega) (by omega) hql
    rw [Nat.add_sub_cancel] at h9
    rw [h9]
    have h10 := nv_take_drop (U.take L) k (by rw [List.length_take]; omega)
    rw [e1, List.take_take, Nat.min_eq_left (by omega), h5] at h10
    have h11 := Nat.div_add_mod (nv (W.take (v.length + 1))) (nv v)
    rw [h10] at hN
    rw [← hN, Pw_succ]
    generalize nv (W.take (v.length + 1)) / nv v = q at *
    generalize nv (W.take (v.length + 1)) % nv v = r at *
    rw [← h11]
    generalize nv (Q.drop (k + 1)) = X
    generalize nv v = V
    generalize Pw k = P
    grind
  · rw [hTd, hsn]; exact hml
end Go.Ev.Ar

namespace Go.Ev.Ar
open Go Go.Ev Go.Proofs

theorem own_cong {b o o' n n' s : Nat} (h1 : o = o') (h2 : n = n') : Ev.A.own b o n s = Ev.A.own b o' n' s := by rw [h1, h2]
theorem row_pre (U : List UInt32) (n : Nat) (h : n ≤ U.length) : D.slice n (((limbs U).drop 0).take (n * 1)) = sl (U.take n) := by
  unfold sl limbs
  rw [List.drop_zero, Nat.mul_one, List.map_take, List.length_take, Nat.min_eq_left h]
theorem row_all (U : List UInt32) (n : Nat) (h : U.length = n) : D.slice n (((limbs U).drop 0).take (n * 1)) = sl U := by
  rw [row_pre U n (by omega), List.take_of_length_le (by omega)]
theorem ndiv0_sim (a b : List UInt32) (ha : a.length < 2^26) (hb : b.length < 2^26) (h0 : nv b = 0) : Sim Tryz.prog G0 false 232 [sl a, sl b] (.tup [sl [], sl [], .bool false]) := by
  have c1 := cut_sim a (by omega)
  have c2 := cut_sim b (by omega)
  rw [h0, ofN_zero] at c2
  refine sim_mk tab_ok Tryz.func232 rfl (by kernel_rfl) rfl ⟨Nat.le_of_ble_eq_true rfl, Nat.le_of_ble_eq_true rfl⟩ ?_
  repeat' ((conv => whnf); first
    | with_reducible refine CallX.data ?_
    | refine CallE.mk _ _ (c1) ?_
    | refine CallE.mk _ _ (c2) ?_
    | refine RegE.early (Cd.mk (show regOk _ _ _ _ = true by kernel_rfl) ?_)
    | refine Cd.mk rfl ?_
    | refine Br.t ?_
    | refine Res.mk ?_)
  rfl
theorem stepU_sim (U v : List UInt32) (k : Nat) (hU : U.length < 2^32) (hn : 2 ≤ v.length) (hk : k + v.length + 1 ≤ U.length) (htop : 2147483648 ≤ (v.getD (v.length - 1) 0).toNat) (hlt : nv ((U.drop k).take (v.length + 1)) < 4294967296 * nv v) :
    SimA Tryz.prog G0 236 [.own 1000000 k (v.length + 1) 1, .d (sl v)] [(1000000, false, la U)] (.d (.int .u32 (nv ((U.drop k).take (v.length + 1)) / nv v : Nat))) [(1000000, false, la (U.take k ++ stepW (U.drop k) v))] := by
  have hl : (U.take k).length = k := by rw [List.length_take]; omega
  have h := stepA_sim (U.take k) (U.drop k) v (by rw [hl, List.length_drop]; omega) hn (by rw [List.length_drop]; omega) htop hlt
  rwa [hl, List.take_append_drop] at h
set_option maxHeartbeats 8000000 in
theorem ndiv_sim (a b : List UInt32) (ha : a.length < 2^26) (hb : b.length < 2^26) (h0 : nv b ≠ 0) : Sim Tryz.prog G0 false 232 [sl a, sl b] (.tup [sl (ofN (nv a / nv b)), sl (ofN (nv a % nv b)), .bool true]) := by
  have c1 := cut_sim a (by omega)
  have c2 := cut_sim b (by omega)
  have l1 := ofN_len_nv a
  have l2 := ofN_len_nv b
  have hnt := norm_top h0
  dsimp only at hnt
  generalize nv a = x at *
  generalize nv b = y at *
  have vA := nv_ofN x
  have vB := nv_ofN y
  have hyl : ¬ (ofN y).length = 0 := fun h => h0 (ofN_len_zero.1 h)
  have hxl := (ofN_len_le (n := x) (k := (ofN x).length)).1 (Nat.le_refl _)
  have hyp : Pw ((ofN y).length - 1) ≤ y := by
    apply Classical.byContradiction; intro h
    have := (ofN_len_le (n := y) (k := (ofN y).length - 1)).2 (by omega)
    omega
  have hxp : (ofN x).length ≠ 0 → Pw ((ofN x).length - 1) ≤ x := by
    intro h3
    apply Classical.byContradiction; intro h
    have := (ofN_len_le (n := x) (k := (ofN x).length - 1)).2 (by omega)
    omega
  generalize hAe : ofN x = A at *
  generalize hBe : ofN y = B at *
  have cm := cmp_sim A B (by omega) (by omega)
  rw [vA, vB] at cm
  by_cases hlt : x < y
  · rw [cmpN_lt hlt] at cm
    rw [Nat.div_eq_of_lt hlt, Nat.mod_eq_of_lt hlt, ofN_zero, hAe]
    refine sim_mk tab_ok Tryz.func232 rfl (by kernel_rfl) rfl ⟨Nat.le_of_ble_eq_true rfl, Nat.le_of_ble_eq_true rfl⟩ ?_
    repeat' ((conv => whnf); first
      | with_reducible refine CallX.data ?_
      | refine CallE.mk _ _ (c1) ?_
      | refine CallE.mk _ _ (c2) ?_
      | refine CallE.mk _ _ (cm) ?_
      | refine CallE.mk _ _ (clone_sim A (by omega)) ?_
      | with_reducible refine Br.dec (fun h => absurd h (by omega)) (fun _ => ?_)
      | refine RegE.early (Cd.mk (show regOk _ _ _ _ = true by kernel_rfl) ?_)
      | refine Cd.mk rfl ?_
      | refine Br.t ?_
      | refine Res.mk ?_)
    rfl
  have hcm : ¬ cmpN x y < 0 := by have := (cmpN_ge (a := x) (b := y)).2 (by omega); omega
  have hle : B.length ≤ A.length := by
    apply Classical.byContradiction; intro h
    have := ofN_len_lt (a := x) (b := y) (by rw [hAe, hBe]; omega)
    omega
  by_cases h1 : B.length = 1
  · have hB1 : B = [B.getD 0 0] := by
      cases B with
      | nil => simp at h1
      | cons z B => simp at h1; subst h1; rfl
    have hd : (B.getD 0 0).toNat = y := by rw [← vB, hB1, nv_cons, nv_nil]; simp
    have sh := short_sim A (B.getD 0 0).toNat (by omega) (by omega) (u32_lt _)
    rw [vA, hd] at sh
    refine sim_mk tab_ok Tryz.func232 rfl (by kernel_rfl) rfl ⟨Nat.le_of_ble_eq_true rfl, Nat.le_of_ble_eq_true rfl⟩ ?_
    repeat' ((conv => whnf); first
      | with_reducible refine CallX.data ?_
      | refine CallE.mk _ _ (c1) ?_
      | refine CallE.mk _ _ (c2) ?_
      | refine CallE.mk _ _ (cm) ?_
      | with_reducible refine Br.dec (fun h => absurd h (by omega)) (fun _ => ?_)
      | with_reducible refine Br.dec (fun _ => ?_) (fun h => absurd (by omega) h)
      | refine NthE.mk _ (limbs_at B 0 0 rfl (by omega)) ?_
      | refine CallE.mk _ _ ((hd ▸ sh)) ?_
      | refine RegE.early (Cd.mk (show regOk _ _ _ _ = true by kernel_rfl) ?_)
      | refine Cd.mk rfl ?_
      | refine NthE.mk _ rfl ?_
      | refine Res.mk ?_
      | refine Cd.mk (by first | omega | (dsimp only; omega) | (simp only [length_limbs, length_la, Nat.mul_one, List.length_set, List.length_take, List.length_drop, List.length_replicate, List.length_append, Int.toNat_natCast]; omega) | (rw [length_la, Nat.mul_one]) | (rw [length_limbs, Nat.mul_one]) | (refine ⟨⟨Int.le_refl _, ?_⟩, ?_⟩ <;> first | omega | (rw [Int.toNat_zero]; omega)) | (simp only [length_limbs, length_la, Nat.mul_one, List.length_set, List.length_take, List.length_drop, List.length_replicate]; exact Nat.le_refl _)) ?_)
    rw [← hd]; rfl
  have hn2 : 2 ≤ B.length := by omega
  obtain ⟨s, hs⟩ : ∃ s, s = 32 - nb (B.getD (B.length - 1) 0).toNat := ⟨_, rfl⟩
  have lz := lz_sim (B.getD (B.length - 1) 0)
  rw [← hs] at lz hnt
  obtain ⟨hs31, hVl, hVt⟩ := hnt
  have hS : 0 < 2 ^ s := Nat.pow_pos (by decide)
  have hSB : 2 ^ s < 4294967296 := Nat.lt_of_le_of_lt (Nat.pow_le_pow_right (by decide) hs31) (by decide)
  have sV := shl_sim B s (by omega) (by omega)
  rw [vB, Int.toNat_natCast] at sV
  have sN := shlA_sim A s (by omega) hs31 (by rw [vA]; omega)
  rw [vA] at sN
  have hx0 : A.length ≠ 0 := by omega
  have hxp := hxp hx0
  -- how long the dividend is
  have hNl : A.length ≤ (ofN (x * 2 ^ s)).length := by
    apply Classical.byContradiction; intro h
    have h3 := (ofN_len_le (n := x * 2 ^ s) (k := A.length - 1)).1 (by omega)
    have h4 := Nat.mul_le_mul_left x hS
    rw [Nat.mul_one] at h4
    omega
  have hNu : (ofN (x * 2 ^ s)).length ≤ A.length + 1 := by
    refine ofN_len_le.2 ?_
    rw [Pw_succ, Nat.mul_comm 4294967296]
    exact Nat.mul_lt_mul'' hxl hSB
  have hlead := lead_lt (b := y) hxl hyp (by omega) hle hS
  have vV := nv_ofN (y * 2 ^ s)
  have vN := nv_ofN (x * 2 ^ s)
  have hV0 : 0 < y * 2 ^ s := Nat.mul_pos (Nat.pos_of_ne_zero h0) hS
  have hdv : x * 2 ^ s / (y * 2 ^ s) = x / y := Nat.mul_div_mul_right _ _ hS
  have hmv : x * 2 ^ s % (y * 2 ^ s) = x % y * 2 ^ s := Nat.mul_mod_mul_right _ _ _
  generalize hVe : ofN (y * 2 ^ s) = V at *
  generalize hNe : ofN (x * 2 ^ s) = N at *
  refine sim_mk tab_ok Tryz.func232 rfl (by kernel_rfl) rfl ⟨Nat.le_of_ble_eq_true rfl, Nat.le_of_ble_eq_true rfl⟩ ?_
  repeat' ((conv => whnf); first
    | refine CallX.own (CallA.mk (sN) [] [(8, 55)] (.own 55 0 N.length 1) [(55, false, la N)] [] (by first | exact ArgsA.nil | exact (ArgsA.own (by first | rfl | exact own_cong (by first | omega | (dsimp only; omega)) (by first | omega | (dsimp only; omega))) ArgsA.nil) | exact (ArgsA.own (by first | rfl | exact own_cong (by first | omega | (dsimp only; omega)) (by first | omega | (dsimp only; omega))) (ArgsA.own (by first | rfl | exact own_cong (by first | omega | (dsimp only; omega)) (by first | omega | (dsimp only; omega))) ArgsA.nil)) | exact (ArgsA.own (by first | rfl | exact own_cong (by first | omega | (dsimp only; omega)) (by first | omega | (dsimp only; omega))) (ArgsA.own (by first | rfl | exact own_cong (by first | omega | (dsimp only; omega)) (by first | omega | (dsimp only; omega))) (ArgsA.own (by first | rfl | exact own_cong (by first | omega | (dsimp only; omega)) (by first | omega | (dsimp only; omega))) ArgsA.nil))) | exact (ArgsA.own (by first | rfl | exact own_cong (by first | omega | (dsimp only; omega)) (by first | omega | (dsimp only; omega))) (ArgsA.own (by first | rfl | exact own_cong (by first | omega | (dsimp only; omega)) (by first | omega | (dsimp only; omega))) (ArgsA.own (by first | rfl | exact own_cong (by first | omega | (dsimp only; omega)) (by first | omega | (dsimp only; omega))) (ArgsA.own (by first | rfl | exact own_cong (by first | omega | (dsimp only; omega)) (by first | omega | (dsimp only; omega))) ArgsA.nil))))) (by first | exact trivial | exact ⟨⟨rfl, rfl⟩, trivial⟩ | (simp only [InOk, rens_la]; repeat' (first | exact trivial | exact rfl | refine And.intro ?_ ?_))) rfl rfl (by first | rfl | (simp only [renH, List.map_cons, List.map_nil, rens_la]; rfl)) ?_)
    | with_reducible refine CallX.data ?_
    | refine CallE.mk _ _ (c1) ?_
    | refine CallE.mk _ _ (c2) ?_
    | refine CallE.mk _ _ (cm) ?_
    | with_reducible refine Br.dec (fun h => absurd h (by omega)) (fun _ => ?_)
    | refine NthE.mk _ (limbs_at B _ (B.length - 1) (by omega) (by omega)) ?_
    | refine CallE.mk _ _ (lz) ?_
    | refine CallE.mk _ _ (sV) ?_
    | refine EqE.mk (la (N ++ [0, 0])) (la_app N [0, 0]) ?_
    | refine DsE.mk (limbs [0, 0]) rfl ?_
    | refine Cd.mk (show ∀ c ∈ limbs [0, 0], (Ev.A.d c).one = true from limbs_one [0, 0]) ?_
    | refine RegE.early (Cd.mk (show regOk _ _ _ _ = true by kernel_rfl) ?_)
    | refine Cd.mk rfl ?_
    | refine DsE.mk (limbs _) rfl ?_
    | ((with_reducible refine EqE.idW ?_); first | with_reducible refine EqE.mk _ (n_succ _ (by omega)) ?_ | with_reducible refine EqE.mk _ (wrap_in (by omega) (by omega)) ?_)
    | ((with_reducible refine EqE.idR ?_); refine EqE.mk _ (la_rep _) ?_)
    | refine Cd.mk (Nat.le_of_ble_eq_true rfl) ?_
    | refine Cd.mk ⟨rfl, rfl⟩ ?_
    | refine Cd.mk (by first | omega | (dsimp only; omega) | (simp only [length_limbs, length_la, Nat.mul_one, List.length_set, List.length_take, List.length_drop, List.length_replicate, List.length_append, Int.toNat_natCast]; omega) | (rw [length_la, Nat.mul_one]) | (rw [length_limbs, Nat.mul_one]) | (refine ⟨⟨Int.le_refl _, ?_⟩, ?_⟩ <;> first | omega | (rw [Int.toNat_zero]; omega)) | (simp only [length_limbs, length_la, Nat.mul_one, List.length_set, List.length_take, List.length_drop, List.length_replicate]; exact Nat.le_refl _)) ?_)
  have hM : ((A.length : Int) - B.length + 1).toNat = A.length - B.length + 1 := by omega
  have hU0 : nv ((N ++ [0, 0]).take (A.length + 1)) = x * 2 ^ s := by
    have : (N ++ [0, 0]).take (A.length + 1) = N ++ ([0, 0] : List UInt32).take (A.length + 1 - N.length) := by rw [List.take_append, List.take_of_length_le hNu]
    rw [this, nv_append, vN]
    have : nv (([0, 0] : List UInt32).take (A.length + 1 - N.length)) = 0 := by
      have h5 := nv_take_le ([0, 0] : List UInt32) (A.length + 1 - N.length)
      have h6 : nv ([0, 0] : List UInt32) = 0 := rfl
      omega
    rw [this]; simp
  refine ⟨[], [9, 10, 11, 12, 13], [55, 68], fun m xs h => ∃ (o : Bool) (j : Nat) (U Q : List UInt32), m = j ∧ j ≤ A.length - B.length + 1 ∧ U.length = N.length + 2 ∧ Q.length = A.length - B.length + 1 ∧
      nv (U.take (A.length + 1)) + nv V * (Pw j * nv (Q.drop j)) = x * 2 ^ s ∧ nv ((U.take (A.length + 1)).drop j) < nv V ∧
      xs = [.d (.int .i64 s), .d (sl V), .own 55 0 ((A.length : Int) + 1 - 0).toNat 1, .own 68 0 ((A.length : Int) - B.length + 1).toNat 1, .d (.int .i64 ((j : Int) - 1))] ∧ h = bif o then [(55, false, la U), (68, false, la Q)] else [(68, false, la Q), (55, false, la U)],
    ⟨_, _, _, ⟨.inl rfl, rfl, rfl, by first | rfl | (repeat first | exact all_nil _ | refine all_la _ _ _ _ _ ?_)⟩, false, ((A.length : Int) - B.length + 1).toNat, N ++ [0, 0], List.replicate ((A.length : Int) - B.length + 1).toNat 0, rfl, by omega, by simp, by rw [List.length_replicate]; exact hM, ?_, ?_, rfl, rfl⟩, ?_⟩
  · rw [hU0, nv_drop_div, nv_replicate, Nat.zero_div, Nat.mul_zero, Nat.mul_zero, Nat.add_zero]
  · rw [nv_drop_div, hU0, vV, hM]; exact hlead
  rintro j xs h ⟨o, _, U, Q, rfl, hj, hU, hQ, hv, hlt2, rfl, rfl⟩
  rw [vV] at hv hlt2
  by_cases hj1 : 1 ≤ j
  · obtain ⟨d1, d2, d3, d4, d5⟩ := div_limb (v := V) (M := A.length - B.length + 1) (N := x * 2 ^ s) (U := U) (Q := Q) (L := A.length + 1) (j := j) (by omega) hQ hj1 hj (by omega) (by omega) (by omega) (by rw [vV]; exact hv) (by rw [vV]; exact hlt2)
    have st := stepU_sim U V (j - 1) (by omega) (by omega) (by omega) hVt d1
    obtain ⟨q, hq⟩ : ∃ q, q = nv ((U.drop (j - 1)).take (V.length + 1)) / nv V := ⟨_, rfl⟩
    obtain ⟨U2, hU2⟩ : ∃ q, q = U.take (j - 1) ++ stepW (U.drop (j - 1)) V := ⟨_, rfl⟩
    rw [← hq, ← hU2] at st
    rw [← hq] at d2 d4
    rw [← hU2] at d3 d4 d5
    cases o <;> simp only [cond_true, cond_false]
    · repeat' ((conv => whnf); first
        | refine CallX.own (CallA.mk (st) [(1000000, 55)] [] (.d (.int .u32 q)) [(55, false, la U2)] [] (by first | exact ArgsA.nil | exact (ArgsA.own (by first | rfl | exact own_cong (by first | omega | (dsimp only; omega)) (by first | omega | (dsimp only; omega))) ArgsA.nil) | exact (ArgsA.own (by first | rfl | exact own_cong (by first | omega | (dsimp only; omega)) (by first | omega | (dsimp only; omega))) (ArgsA.own (by first | rfl | exact own_cong (by first | omega | (dsimp only; omega)) (by first | omega | (dsimp only; omega))) ArgsA.nil)) | exact (ArgsA.own (by first | rfl | exact own_cong (by first | omega | (dsimp only; omega)) (by first | omega | (dsimp only; omega))) (ArgsA.own (by first | rfl | exact own_cong (by first | omega | (dsimp only; omega)) (by first | omega | (dsimp only; omega))) (ArgsA.own (by first | rfl | exact own_cong (by first | omega | (dsimp only; omega)) (by first | omega | (dsimp only; omega))) ArgsA.nil))) | exact (ArgsA.own (by first | rfl | exact own_cong (by first | omega | (dsimp only; omega)) (by first | omega | (dsimp only; omega))) (ArgsA.own (by first | rfl | exact own_cong (by first | omega | (dsimp only; omega)) (by first | omega | (dsimp only; omega))) (ArgsA.own (by first | rfl | exact own_cong (by first | omega | (dsimp only; omega)) (by first | omega | (dsimp only; omega))) (ArgsA.own (by first | rfl | exact own_cong (by first | omega | (dsimp only; omega)) (by first | omega | (dsimp only; omega))) ArgsA.nil))))) (by first | exact trivial | exact ⟨⟨rfl, rfl⟩, trivial⟩ | (simp only [InOk, rens_la]; repeat' (first | exact trivial | exact rfl | refine And.intro ?_ ?_))) rfl rfl (by first | rfl | (simp only [renH, List.map_cons, List.map_nil, rens_la]; rfl)) ?_)
        | with_reducible refine Br.dec (fun _ => ?_) (fun h => absurd (by omega) h)
        | refine Cd.mk (la_room [] Q _ (j - 1) (by omega) (by omega)) ?_
        | refine RegE.early (Cd.mk (show regOk _ _ _ _ = true by kernel_rfl) ?_)
        | refine Cd.mk rfl ?_
        | refine LoopEnd.go _ _ ⟨.inl rfl, rfl, rfl, by first | rfl | (repeat first | exact all_nil _ | refine all_la _ _ _ _ _ ?_)⟩ ?_
        | ((with_reducible refine EqE.idW ?_); first | refine EqE.mk _ (w_dec _ hj1 (by omega)) ?_ | with_reducible refine EqE.mk _ (wrap_in (by omega) (by omega)) ?_)
        | ((with_reducible refine EqE.idS ?_); refine EqE.mk _ (la_setA [] Q _ (j - 1) _ (by omega) (by omega) (by omega)) ?_)
        | refine Cd.mk (by first | omega | (dsimp only; omega) | (simp only [length_limbs, length_la, Nat.mul_one, List.length_set, List.length_take, List.length_drop, List.length_replicate, List.length_append, Int.toNat_natCast]; omega) | (rw [length_la, Nat.mul_one]) | (rw [length_limbs, Nat.mul_one]) | (refine ⟨⟨Int.le_refl _, ?_⟩, ?_⟩ <;> first | omega | (rw [Int.toNat_zero]; omega)) | (simp only [length_limbs, length_la, Nat.mul_one, List.length_set, List.length_take, List.length_drop, List.length_replicate]; exact Nat.le_refl _)) ?_)
      exact ⟨_, ⟨true, j - 1, U2, Q.set (j - 1) (UInt32.ofNat q), rfl, by omega, by omega, by rw [List.length_set]; omega, d4, d5, rfl, rfl⟩, by omega⟩
    · repeat' ((conv => whnf); first
        | refine CallX.own (CallA.mk (st) [(1000000, 55)] [] (.d (.int .u32 q)) [(55, false, la U2)] [] (by first | exact ArgsA.nil | exact (ArgsA.own (by first | rfl | exact own_cong (by first | omega | (dsimp only; omega)) (by first | omega | (dsimp only; omega))) ArgsA.nil) | exact (ArgsA.own (by first | rfl | exact own_cong (by first | omega | (dsimp only; omega)) (by first | omega | (dsimp only; omega))) (ArgsA.own (by first | rfl | exact own_cong (by first | omega | (dsimp only; omega)) (by first | omega | (dsimp only; omega))) ArgsA.nil)) | exact (ArgsA.own (by first | rfl | exact own_cong (by first | omega | (dsimp only; omega)) (by first | omega | (dsimp only; omega))) (ArgsA.own (by first | rfl | exact own_cong (by first | omega | (dsimp only; omega)) (by first | omega | (dsimp only; omega))) (ArgsA.own (by first | rfl | exact own_cong (by first | omega | (dsimp only; omega)) (by first | omega | (dsimp only; omega))) ArgsA.nil))) | exact (ArgsA.own (by first | rfl | exact own_cong (by first | omega | (dsimp only; omega)) (by first | omega | (dsimp only; omega))) (ArgsA.own (by first | rfl | exact own_cong (by first | omega | (dsimp only; omega)) (by first | omega | (dsimp only; omega))) (ArgsA.own (by first | rfl | exact own_cong (by first | omega | (dsimp only; omega)) (by first | omega | (dsimp only; omega))) (ArgsA.own (by first | rfl | exact own_cong (by first | omega | (dsimp only; omega)) (by first | omega | (dsimp only; omega))) ArgsA.nil))))) (by first | exact trivial | exact ⟨⟨rfl, rfl⟩, trivial⟩ | (simp only [InOk, rens_la]; repeat' (first | exact trivial | exact rfl | refine And.intro ?_ ?_))) rfl rfl (by first | rfl | (simp only [renH, List.map_cons, List.map_nil, rens_la]; rfl)) ?_)
        | with_reducible refine Br.dec (fun _ => ?_) (fun h => absurd (by omega) h)
        | refine Cd.mk (la_room [] Q _ (j - 1) (by omega) (by omega)) ?_
        | refine RegE.early (Cd.mk (show regOk _ _ _ _ = true by kernel_rfl) ?_)
        | refine Cd.mk rfl ?_
        | refine LoopEnd.go _ _ ⟨.inl rfl, rfl, rfl, by first | rfl | (repeat first | exact all_nil _ | refine all_la _ _ _ _ _ ?_)⟩ ?_
        | ((with_reducible refine EqE.idW ?_); first | refine EqE.mk _ (w_dec _ hj1 (by omega)) ?_ | with_reducible refine EqE.mk _ (wrap_in (by omega) (by omega)) ?_)
        | ((with_reducible refine EqE.idS ?_); refine EqE.mk _ (la_setA [] Q _ (j - 1) _ (by omega) (by omega) (by omega)) ?_)
        | refine Cd.mk (by first | omega | (dsimp only; omega) | (simp only [length_limbs, length_la, Nat.mul_one, List.length_set, List.length_take, List.length_drop, List.length_replicate, List.length_append, Int.toNat_natCast]; omega) | (rw [length_la, Nat.mul_one]) | (rw [length_limbs, Nat.mul_one]) | (refine ⟨⟨Int.le_refl _, ?_⟩, ?_⟩ <;> first | omega | (rw [Int.toNat_zero]; omega)) | (simp only [length_limbs, length_la, Nat.mul_one, List.length_set, List.length_take, List.length_drop, List.length_replicate]; exact Nat.le_refl _)) ?_)
      exact ⟨_, ⟨true, j - 1, U2, Q.set (j - 1) (UInt32.ofNat q), rfl, by omega, by omega, by rw [List.length_set]; omega, d4, d5, rfl, rfl⟩, by omega⟩
  · obtain rfl : j = 0 := by omega
    rw [List.drop_zero, show Pw 0 = 1 from rfl, Nat.one_mul] at hv
    rw [List.drop_zero] at hlt2
    have hqx : nv Q = x / y ∧ nv (U.take (A.length + 1)) = x % y * 2 ^ s := by
      rw [← hdv, ← hmv, ← hv]
      refine ⟨?_, ?_⟩
      · rw [Nat.add_mul_div_left _ _ hV0, Nat.div_eq_of_lt hlt2, Nat.zero_add]
      · rw [Nat.add_mul_mod_self_left, Nat.mod_eq_of_lt hlt2]
    have cq := cut_sim Q (by omega)
    rw [hqx.1] at cq
    have cr := shr_sim (U.take (A.length + 1)) s (by rw [List.length_take]; omega) (by omega)
    rw [hqx.2, Int.toNat_natCast, Nat.mul_div_cancel _ hS] at cr
    have eL : ((A.length : Int) + 1 - 0).toNat = A.length + 1 := by omega
    cases o <;> simp only [cond_true, cond_false, eL]
    · repeat' ((conv => whnf); first
        | with_reducible refine CallX.data ?_
        | with_reducible refine Br.dec (fun h => absurd h (by omega)) (fun _ => ?_)
        | refine CallE.mk _ _ (cq) ?_
        | refine CallE.mk _ _ (cr) ?_
        | refine RegE.early (Cd.mk (show regOk _ _ _ _ = true by kernel_rfl) ?_)
        | refine Cd.mk rfl ?_
        | refine Res.mk ?_
        | refine DsE.mk (limbs _) rfl ?_
        | ((with_reducible refine EqE.idL ?_); first | refine EqE.mk _ (row_all Q _ (by omega)) ?_ | refine EqE.mk _ (row_pre U _ (by omega)) ?_))
      rfl
    · repeat' ((conv => whnf); first
        | with_reducible refine CallX.data ?_
        | with_reducible refine Br.dec (fun h => absurd h (by omega)) (fun _ => ?_)
        | refine CallE.mk _ _ (cq) ?_
        | refine CallE.mk _ _ (cr) ?_
        | refine RegE.early (Cd.mk (show regOk _ _ _ _ = true by kernel_rfl) ?_)
        | refine Cd.mk rfl ?_
        | refine Res.mk ?_
        | refine DsE.mk (limbs _) rfl ?_
        | ((with_reducible refine EqE.idL ?_); first | refine EqE.mk _ (row_all Q _ (by omega)) ?_ | refine EqE.mk _ (row_pre U _ (by omega)) ?_))
      rfl
end Go.Ev.Ar

namespace Go.Ev.Ar
open Go Go.Ev Go.Proofs

theorem zsign_at {x : D} {n s : Int} (hx : ZR x n) (h : Int.sign n = s) : Sim Tryz.prog G0 true 207 [x] (.int .i64 s) := h ▸ zsign_sim hx
/-- Quotient and rest towards nought, and downwards. -/
theorem div_down {m n : Int} (hn : 0 < n) :
    (0 ≤ zv (zneg m) (ofN (m.natAbs % n.natAbs)) → zv (zneg m) (ofN (m.natAbs / n.natAbs)) = m / n ∧ zv (zneg m) (ofN (m.natAbs % n.natAbs)) = m % n) ∧
    (zv (zneg m) (ofN (m.natAbs % n.natAbs)) < 0 → zv (zneg m) (ofN (m.natAbs / n.natAbs)) - 1 = m / n ∧ zv (zneg m) (ofN (m.natAbs % n.natAbs)) + n = m % n) := by
  obtain ⟨k, rfl⟩ := Int.eq_ofNat_of_zero_le (Int.le_of_lt hn)
  have hk : 0 < k := by omega
  have hd := Nat.div_add_mod m.natAbs k
  have hl := Nat.mod_lt m.natAbs hk
  have e : (k : Int).natAbs = k := rfl
  rw [e]
  unfold zv
  rw [nv_ofN, nv_ofN]
  generalize m.natAbs / k = q at *
  generalize m.natAbs % k = r at *
  have hq : ((k * q + r : Nat) : Int) = (m.natAbs : Int) := by rw [hd]
  rw [Int.natCast_add, Int.natCast_mul] at hq
  have key : ∀ u v : Int, (k : Int) * u + v = m → 0 ≤ v → v < k → u = m / k ∧ v = m % k := fun u v h1 h2 h3 => by
    obtain ⟨a, b⟩ := (Int.ediv_emod_unique (a := m) (b := k) (r := v) (q := u) (by omega)).2 ⟨by omega, h2, h3⟩
    exact ⟨a.symm, b.symm⟩
  by_cases hm : m < 0
  · have hz : zneg m = true := by simp [zneg, hm]
    rw [hz]
    simp only [if_true]
    constructor
    · intro h0
      refine key _ _ ?_ h0 (by omega)
      rw [Int.mul_neg]; omega
    · intro h0
      refine key _ _ ?_ (by omega) (by omega)
      rw [Int.mul_sub, Int.mul_neg]; omega
  · have hz : zneg m = false := by simp [zneg, hm]
    rw [hz]
    simp only [Bool.false_eq_true, if_false]
    constructor
    · intro h0
      refine key _ _ (by omega) h0 (by omega)
    · intro h0
      omega
theorem zdiv_sim {x y : D} {m n : Int} (hx : ZR x m) (hy : ZR y n) (hn : 0 < n) (hm : Zt 134000000 m) (hb : Zt 134000000 n) : Sim Tryz.prog G0 false 226 [x, y] (.tup [zD (m / n), zD (m % n), .bool true]) := by
  have l1 := hm.len (k := 4187500) (by decide)
  have l2 := hb.len (k := 4187500) (by decide)
  have hd := ndiv_sim (ofN m.natAbs) (ofN n.natAbs) (by omega) (by omega) (by rw [nv_ofN]; omega)
  rw [nv_ofN, nv_ofN] at hd
  have hz : zneg n = false := by unfold zneg; rw [decide_eq_false (by omega)]
  have k1 : (ofN (m.natAbs / n.natAbs)).length < 2^32 := by
    have := ofN_len_le.2 (Nat.lt_of_le_of_lt (Nat.div_le_self m.natAbs n.natAbs) (ofN_len_le.1 l1)); omega
  have k2 : (ofN (m.natAbs % n.natAbs)).length < 2^32 := by
    have := ofN_len_le.2 (Nat.lt_of_le_of_lt (Nat.mod_le m.natAbs n.natAbs) (ofN_len_le.1 l1)); omega
  have e : (!(zneg m == zneg n)) = zneg m := by rw [hz]; cases zneg m <;> rfl
  have w1 := with_sim' (b := !(zneg m == zneg n)) (n := zv (zneg m) (ofN (m.natAbs / n.natAbs))) k1 (by rw [e])
  have w2 := with_sim (zneg m) _ k2
  obtain ⟨d1, d2⟩ := div_down (m := m) hn
  have hq0 : Zt 134000000 (zv (zneg m) (ofN (m.natAbs / n.natAbs))) := hm.le (by rw [zv_natAbs, nv_ofN]; exact Nat.div_le_self _ _)
  have hr0 : Zt 134000000 (zv (zneg m) (ofN (m.natAbs % n.natAbs))) := hm.le (by rw [zv_natAbs, nv_ofN]; exact Nat.mod_le _ _)
  generalize zv (zneg m) (ofN (m.natAbs / n.natAbs)) = q0 at *
  generalize zv (zneg m) (ofN (m.natAbs % n.natAbs)) = r0 at *
  obtain ⟨b, l, hl⟩ := hx
  obtain ⟨c, k, hk⟩ := hy
  refine sim_mk tab_ok Tryz.func226 rfl (by kernel_rfl) rfl ⟨Nat.le_of_ble_eq_true rfl, Nat.le_of_ble_eq_true rfl⟩ ?_
  have n1 := znorm_sim (.mk b l hl)
  have n2 := znorm_sim (.mk c k hk)
  have hy' : ZR (.agg [.bool (zneg (zv c k)), sl (ofN (zv c k).natAbs)]) (zv c k) := .of (hb.mono (by decide))
  have o1 : ZR (zD 1) 1 := .of (Zt.small (by decide) (by decide))
  have sn := zsign_at hy' (Int.sign_eq_one_of_pos hn)
  rcases Int.lt_trichotomy r0 0 with h | h | h
  · obtain ⟨e1, e2⟩ := d2 h
    have sr := zsign_at (.of (n := r0) (hr0.mono (by decide))) (Int.sign_eq_neg_one_of_neg h)
    repeat' ((conv => whnf); first
      | with_reducible refine CallX.data ?_
      | refine RegE.lateS (ps := [(2, 1)]) rfl (by kernel_rfl) ?_ rfl
      | refine CallE.mk _ _ (n1) ?_
      | refine CallE.mk _ _ (n2) ?_
      | refine CallE.mk _ _ (hd) ?_
      | refine CallE.mk _ _ (w1) ?_
      | refine CallE.mk _ _ (w2) ?_
      | refine CallE.mk _ _ (sr) ?_
      | refine CallE.mk _ _ (sn) ?_
      | refine CallE.mk _ _ (zof_sim 1 (by decide) (by decide)) ?_
      | refine CallE.mk _ _ (zsub_sim (.of (n := q0) (hq0.mono (by decide))) o1) ?_
      | refine CallE.mk _ _ (zadd_sim (.of (n := r0) (hr0.mono (by decide))) hy') ?_
      | refine RegE.early (Cd.mk (show regOk _ _ _ _ = true by kernel_rfl) ?_)
      | refine Cd.mk rfl ?_
      | refine Br.t ?_
      | refine Br.f ?_
      | refine NthE.mk _ rfl ?_
      | (refine TkE.fL ?_; (conv => whnf); fail_if_success (show forceL _ _))
      | refine Res.mk ?_
      | refine LateE.mk (by repeat first | exact True.intro | refine And.intro (by kernel_rfl) ?_) ?_
      | ((with_reducible refine EqE.idW ?_); refine EqE.mk _ (wrap_in (by omega) (by omega)) ?_)
      | ((with_reducible refine EqE.idS ?_); (refine EqE.fP ?_; (conv => whnf); fail_if_success (show forceL _ _)))
      | refine Cd.mk (Nat.le_of_ble_eq_true rfl) ?_)
    rw [← e1, ← e2]; rfl
  · obtain ⟨e1, e2⟩ := d1 (by omega)
    have sr := zsign_at (.of (n := r0) (hr0.mono (by decide))) (Int.sign_eq_zero_iff_zero.2 h)
    repeat' ((conv => whnf); first
      | with_reducible refine CallX.data ?_
      | refine RegE.lateS (ps := [(2, 1)]) rfl (by kernel_rfl) ?_ rfl
      | refine CallE.mk _ _ (n1) ?_
      | refine CallE.mk _ _ (n2) ?_
      | refine CallE.mk _ _ (hd) ?_
      | refine CallE.mk _ _ (w1) ?_
      | refine CallE.mk _ _ (w2) ?_
      | refine CallE.mk _ _ (sr) ?_
      | refine CallE.mk _ _ (sn) ?_
      | refine RegE.early (Cd.mk (show regOk _ _ _ _ = true by kernel_rfl) ?_)
      | refine Cd.mk rfl ?_
      | refine Br.f ?_
      | refine NthE.mk _ rfl ?_
      | (refine TkE.fL ?_; (conv => whnf); fail_if_success (show forceL _ _))
      | refine Res.mk ?_
      | refine LateE.mk (by repeat first | exact True.intro | refine And.intro (by kernel_rfl) ?_) ?_
      | ((with_reducible refine EqE.idW ?_); refine EqE.mk _ (wrap_in (by omega) (by omega)) ?_)
      | ((with_reducible refine EqE.idS ?_); (refine EqE.fP ?_; (conv => whnf); fail_if_success (show forceL _ _)))
      | refine Cd.mk (Nat.le_of_ble_eq_true rfl) ?_)
    rw [← e1, ← e2]; rfl
  · obtain ⟨e1, e2⟩ := d1 (by omega)
    have sr := zsign_at (.of (n := r0) (hr0.mono (by decide))) (Int.sign_eq_one_of_pos h)
    repeat' ((conv => whnf); first
      | with_reducible refine CallX.data ?_
      | refine RegE.lateS (ps := [(2, 1)]) rfl (by kernel_rfl) ?_ rfl
      | refine CallE.mk _ _ (n1) ?_
      | refine CallE.mk _ _ (n2) ?_
      | refine CallE.mk _ _ (hd) ?_
      | refine CallE.mk _ _ (w1) ?_
      | refine CallE.mk _ _ (w2) ?_
      | refine CallE.mk _ _ (sr) ?_
      | refine CallE.mk _ _ (sn) ?_
      | refine RegE.early (Cd.mk (show regOk _ _ _ _ = true by kernel_rfl) ?_)
      | refine Cd.mk rfl ?_
      | refine Br.f ?_
      | refine NthE.mk _ rfl ?_
      | (refine TkE.fL ?_; (conv => whnf); fail_if_success (show forceL _ _))
      | refine Res.mk ?_
      | refine LateE.mk (by repeat first | exact True.intro | refine And.intro (by kernel_rfl) ?_) ?_
      | ((with_reducible refine EqE.idW ?_); refine EqE.mk _ (wrap_in (by omega) (by omega)) ?_)
      | ((with_reducible refine EqE.idS ?_); (refine EqE.fP ?_; (conv => whnf); fail_if_success (show forceL _ _)))
      | refine Cd.mk (Nat.le_of_ble_eq_true rfl) ?_)
    rw [← e1, ← e2]; rfl
end Go.Ev.Ar
