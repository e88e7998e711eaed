/- Contracts of the given functions, on data. Conditions stand in each theorem. -/
import Derived.Test.YtagjickjfjgfpaaGreatDoorGAvTab
set_option linter.unusedSimpArgs false
set_option linter.unusedVariables false
namespace Go.Ev.Ar
open Go Go.Ev Go.Proofs

theorem rtrim_sim (l : List UInt32) (hl : l.length < 2^40) : Sim Tryz.prog G0 false 141 [sl l] (sl (ofN (nv l))) := by
  refine sim_mk tab_ok Tryz.func141 rfl (by kernel_rfl) rfl ⟨Nat.le_of_ble_eq_true rfl, Nat.le_of_ble_eq_true rfl⟩ ?_
  repeat' ((conv => whnf); first
    | refine RegE.early (Cd.mk (show regOk _ _ _ _ = true by kernel_rfl) ?_))
  refine ⟨[], [0, 3], [], fun m xs h => m ≤ l.length ∧ nv (l.take m) = nv l ∧ ∃ i : Int, i = m ∧ xs = [.d (sl l), .d (.int .i64 i)] ∧ h = [],
    ⟨_, _, _, ⟨.inl rfl, rfl, rfl, by first | rfl | (repeat first | exact all_nil _ | refine all_la _ _ _ _ _ ?_)⟩, Nat.le_refl _, by rw [List.take_length], _, rfl, rfl, rfl⟩, ?_⟩
  rintro m xs h ⟨hm, hv, i, hi, rfl, rfl⟩
  repeat' ((conv => whnf); first
    | refine RegE.early (Cd.mk (show regOk _ _ _ _ = true by kernel_rfl) ?_)
    | refine Cd.mk rfl ?_
    | refine Br.t ?_
    | refine Br.f ?_
    | with_reducible refine Br.dec (fun _ => ?_) (fun _ => ?_)
    | refine NthE.mk _ (limbs_drop _ _ (by omega)) ?_
    | refine Res.mk ?_
    | refine LoopEnd.go _ _ ⟨.inl rfl, rfl, rfl, by first | rfl | (repeat first | exact all_nil _ | refine all_la _ _ _ _ _ ?_)⟩ ?_
    | ((with_reducible refine EqE.idW ?_); with_reducible refine EqE.mk _ (wrap_in (by omega) (by omega)) ?_)
    | ((with_reducible refine EqE.idL ?_); refine EqE.mk _ (sl_slice _ _ _ (by omega) (by omega) (by omega)) ?_)
    | refine Cd.mk (by first | omega | (dsimp only; omega) | (simp only [length_limbs, length_la, Nat.mul_one, List.length_set, List.length_take, List.length_drop, List.length_replicate, List.length_append, Int.toNat_natCast]; omega) | (rw [length_la, Nat.mul_one]) | (rw [length_limbs, Nat.mul_one]) | (refine ⟨⟨Int.le_refl _, ?_⟩, ?_⟩ <;> first | omega | (rw [Int.toNat_zero]; omega)) | (simp only [length_limbs, length_la, Nat.mul_one, List.length_set, List.length_take, List.length_drop, List.length_replicate]; exact Nat.le_refl _)) ?_)
  · rename_i h0 h1
    have e : (i - 1).toNat = m - 1 := by omega
    rw [e] at h1
    refine ⟨m - 1, ⟨by omega, ?_, _, ?_, rfl, rfl⟩, by omega⟩
    · have := nv_take_succ' l (m - 1)
      rw [show m - 1 + 1 = m by omega, hv, show (l.getD (m - 1) 0).toNat = 0 by omega] at this
      omega
    · omega
  · rename_i h0 h1
    have e : (i - 1).toNat = m - 1 := by omega
    rw [e] at h1
    show sl _ = sl _
    rw [show (i - 0).toNat = m by omega, Int.toNat_zero, List.drop_zero, ← hv, ofN_of (.inr ?_)]
    rw [List.length_take, Nat.min_eq_left hm]
    have : (l.take m).getD (m - 1) 0 = l.getD (m - 1) 0 := by
      simp only [List.getD_eq_getElem?_getD, List.getElem?_take]
      rw [if_pos (by omega)]
    rw [this]; omega
  · rename_i h0
    show sl _ = sl _
    rw [show (i - 0).toNat = 0 by omega, Int.toNat_zero, List.drop_zero, ← hv, show m = 0 by omega]
    exact congrArg sl ofN_zero

theorem rat_sim (l : List UInt32) (i : Nat) : Sim Tryz.prog G0 true 143 [sl l, .int .i64 i] (.int .u64 (at_ l i)) := by
  refine sim_mk tab_ok Tryz.func143 rfl (by kernel_rfl) rfl ⟨Nat.le_of_ble_eq_true rfl, Nat.le_of_ble_eq_true rfl⟩ ?_
  repeat' ((conv => whnf); first
    | refine RegE.early (Cd.mk (show regOk _ _ _ _ = true by kernel_rfl) ?_)
    | refine Cd.mk rfl ?_
    | with_reducible refine Br.dec (fun _ => ?_) (fun _ => ?_)
    | refine NthE.mk _ (limbs_dropN _ _ (by omega)) ?_
    | refine Res.mk ?_
    | ((with_reducible refine EqE.idW ?_); with_reducible refine EqE.mk _ (wrap_u64_u32 _) ?_)
    | refine Cd.mk (by first | omega | (dsimp only; omega) | (simp only [length_limbs, length_la, Nat.mul_one, List.length_set, List.length_take, List.length_drop, List.length_replicate, List.length_append, Int.toNat_natCast]; omega) | (rw [length_la, Nat.mul_one]) | (rw [length_limbs, Nat.mul_one]) | (refine ⟨⟨Int.le_refl _, ?_⟩, ?_⟩ <;> first | omega | (rw [Int.toNat_zero]; omega)) | (simp only [length_limbs, length_la, Nat.mul_one, List.length_set, List.length_take, List.length_drop, List.length_replicate]; exact Nat.le_refl _)) ?_)
  · show D.int _ _ = D.int _ _; rw [at_nat]
  · show D.int _ _ = D.int _ _; rw [at_nat, getD_big (by omega)]; rfl

theorem rsame_sim (a b : List UInt32) (ha : a.length < 2^40) (hb : b.length < 2^40) : Sim Tryz.prog G0 true 196 [sl a, sl b] (.bool (decide (a = b))) := by
  refine sim_mk tab_ok Tryz.func196 rfl (by kernel_rfl) rfl ⟨Nat.le_of_ble_eq_true rfl, Nat.le_of_ble_eq_true rfl⟩ ?_
  repeat' ((conv => whnf); first
    | refine RegE.early (Cd.mk (show regOk _ _ _ _ = true by kernel_rfl) ?_)
    | refine Cd.mk rfl ?_
    | with_reducible refine Br.ndec (fun _ => ?_) (fun _ => ?_)
    | refine Res.mk ?_)
  · show D.bool _ = D.bool _
    rw [decide_eq_false]; intro e; subst e; omega
  rename_i h0
  skip
  refine ⟨[], [0, 1, 5], [], fun m xs h => ∃ i : Nat, m = a.length - i ∧ i ≤ a.length ∧ a.take i = b.take i ∧ xs = [.d (sl a), .d (sl b), .d (.int .i64 i)] ∧ h = [],
    ⟨_, _, _, ⟨.inl rfl, rfl, rfl, by first | rfl | (repeat first | exact all_nil _ | refine all_la _ _ _ _ _ ?_)⟩, 0, rfl, by omega, rfl, rfl, rfl⟩, ?_⟩
  rintro m xs h ⟨i, rfl, hi, hv, rfl, rfl⟩
  repeat' ((conv => whnf); first
    | refine RegE.early (Cd.mk (show regOk _ _ _ _ = true by kernel_rfl) ?_)
    | refine Cd.mk rfl ?_
    | with_reducible refine Br.dec (fun _ => ?_) (fun _ => ?_)
    | with_reducible refine Br.ndec (fun _ => ?_) (fun _ => ?_)
    | refine NthE.mk _ (limbs_dropN _ _ (by omega)) ?_
    | refine Res.mk ?_
    | refine LoopEnd.go _ _ ⟨.inl rfl, rfl, rfl, by first | rfl | (repeat first | exact all_nil _ | refine all_la _ _ _ _ _ ?_)⟩ ?_
    | ((with_reducible refine EqE.idW ?_); with_reducible refine EqE.mk _ (n_succ _ (by omega)) ?_)
    | refine Cd.mk (by first | omega | (dsimp only; omega) | (simp only [length_limbs, length_la, Nat.mul_one, List.length_set, List.length_take, List.length_drop, List.length_replicate, List.length_append, Int.toNat_natCast]; omega) | (rw [length_la, Nat.mul_one]) | (rw [length_limbs, Nat.mul_one]) | (refine ⟨⟨Int.le_refl _, ?_⟩, ?_⟩ <;> first | omega | (rw [Int.toNat_zero]; omega)) | (simp only [length_limbs, length_la, Nat.mul_one, List.length_set, List.length_take, List.length_drop, List.length_replicate]; exact Nat.le_refl _)) ?_)
  · rename_i h1 h2
    show D.bool _ = D.bool _
    rw [decide_eq_false]; intro e; subst e; exact h2 rfl
  · rename_i h1 h2
    refine ⟨_, ⟨i + 1, rfl, by omega, ?_, rfl, rfl⟩, by omega⟩
    have ha' : i < a.length := by omega
    have hb' : i < b.length := by omega
    have h3 : a.getD i 0 = b.getD i 0 := UInt32.toNat_inj.1 (by omega)
    have h4 : a[i] = b[i] := by simpa [ha', hb'] using h3
    rw [List.take_succ_eq_append_getElem ha', List.take_succ_eq_append_getElem hb', hv, h4]
  · rename_i h1
    show D.bool _ = D.bool _
    rw [List.take_of_length_le (by omega), List.take_of_length_le (by omega)] at hv
    rw [decide_eq_true hv]

theorem radd_sim (a b : List UInt32) (ha : a.length < 2^30) (hb : b.length < 2^30) : Sim Tryz.prog G0 false 169 [sl a, sl b] (sl (ofN (nv a + nv b))) := by
  refine sim_mk tab_ok Tryz.func169 rfl (by kernel_rfl) rfl ⟨Nat.le_of_ble_eq_true rfl, Nat.le_of_ble_eq_true rfl⟩ ?_
  repeat' ((conv => whnf); first
    | refine RegE.early (Cd.mk (show regOk _ _ _ _ = true by kernel_rfl) ?_)
    | refine Cd.mk rfl ?_
    | ((with_reducible refine EqE.idW ?_); with_reducible refine EqE.mk _ (n_succ _ (by omega)) ?_)
    | ((with_reducible refine EqE.idI ?_); with_reducible refine EqE.mk _ (max_nat _ _) ?_)
    | ((with_reducible refine EqE.idR ?_); refine EqE.mk _ (la_rep _) ?_)
    | refine Cd.mk (by first | omega | (dsimp only; omega) | (simp only [length_limbs, length_la, Nat.mul_one, List.length_set, List.length_take, List.length_drop, List.length_replicate, List.length_append, Int.toNat_natCast]; omega) | (rw [length_la, Nat.mul_one]) | (rw [length_limbs, Nat.mul_one]) | (refine ⟨⟨Int.le_refl _, ?_⟩, ?_⟩ <;> first | omega | (rw [Int.toNat_zero]; omega)) | (simp only [length_limbs, length_la, Nat.mul_one, List.length_set, List.length_take, List.length_drop, List.length_replicate]; exact Nat.le_refl _)) ?_)
  refine ⟨[], [0,1,5,6,7,8], [16], fun m xs h => ∃ (n i c : Nat) (l : List UInt32), m = n - i ∧ n = max a.length b.length + 1 ∧ i ≤ n ∧ c ≤ 1 ∧ l.length = n ∧ nv l + Pw i * c = nv (a.take i) + nv (b.take i) ∧ (∀ j, i ≤ j → (l.getD j 0).toNat = 0) ∧
    xs = [.d (sl a), .d (sl b), .d (.int .i64 n), .own 16 0 n 1, .d (.int .u64 c), .d (.int .i64 i)] ∧ h = [(16, false, la l)],
    ⟨_, _, _, ⟨.inl rfl, rfl, rfl, by first | rfl | (repeat first | exact all_nil _ | refine all_la _ _ _ _ _ ?_)⟩, _, 0, 0, _, rfl, rfl, by omega, by omega, by simp, by simp [nv_replicate], fun j _ => getD_rep _ _, rfl, rfl⟩, ?_⟩
  rintro m xs h ⟨n, i, c, l, rfl, hn, hi, hc, hl, hv, hz, rfl, rfl⟩
  have hxa := at_lt a i
  have hxb := at_lt b i
  repeat' ((conv => whnf); first
    | with_reducible refine CallX.data ?_
    | refine CallE.mk _ _ (rat_sim _ _) ?_
    | refine CallE.mk _ _ (rtrim_sim _ (by omega)) ?_
    | refine RegE.early (Cd.mk (show regOk _ _ _ _ = true by kernel_rfl) ?_)
    | refine Cd.mk rfl ?_
    | with_reducible refine Br.dec (fun _ => ?_) (fun _ => ?_)
    | refine Res.mk ?_
    | refine DsE.mk (limbs _) rfl ?_
    | refine LoopEnd.go _ _ ⟨.inl rfl, rfl, rfl, by first | rfl | (repeat first | exact all_nil _ | refine all_la _ _ _ _ _ ?_)⟩ ?_
    | ((with_reducible refine EqE.idW ?_); first | with_reducible refine EqE.mk _ (n_add _ _ (by omega)) ?_ | with_reducible refine EqE.mk _ (n_u32 _) ?_ | with_reducible refine EqE.mk _ (n_succ _ (by omega)) ?_)
    | ((with_reducible refine EqE.idF ?_); refine EqE.mk _ (n_shr _ 4294967296 _ _ rfl) ?_)
    | ((with_reducible refine EqE.idS ?_); refine EqE.mk _ (la_setN _ _ _ _ (by first | with_reducible exact own_ix _ | with_reducible exact own_ixI _ | exact own_ix _ | exact own_ixI _ | rfl) (by first | omega | (simp only [List.length_set]; omega)) (by omega)) ?_)
    | ((with_reducible refine EqE.idL ?_); refine EqE.mk _ (sl_own _ _ _ _ (by omega) (by omega) rfl) ?_)
    | refine Cd.mk (by first | omega | (dsimp only; omega) | (simp only [length_limbs, length_la, Nat.mul_one, List.length_set, List.length_take, List.length_drop, List.length_replicate, List.length_append, Int.toNat_natCast]; omega) | (rw [length_la, Nat.mul_one]) | (rw [length_limbs, Nat.mul_one]) | (refine ⟨⟨Int.le_refl _, ?_⟩, ?_⟩ <;> first | omega | (rw [Int.toNat_zero]; omega)) | (simp only [length_limbs, length_la, Nat.mul_one, List.length_set, List.length_take, List.length_drop, List.length_replicate]; exact Nat.le_refl _)) ?_)
  · rename_i h0
    refine ⟨_, ⟨n, i + 1, (c + at_ a i + at_ b i) / 4294967296, _, rfl, hn, by omega, by omega, ?_, ?_, ?_, rfl, rfl⟩, by omega⟩
    · simp [hl]
    · have hz := hz i (Nat.le_refl _)
      rw [nv_set0 (by omega) hz (by omega), nv_take_succ', nv_take_succ', Pw_succ, Nat.add_assoc, limb_step, at_nat, at_nat, Nat.mul_add, Nat.mul_add]
      omega
    · intro j hj
      rw [getD_set_ne (by omega)]; exact hz j (by omega)
  · rename_i h0
    show sl _ = sl _
    have e : i = n := by omega
    have h1 := nv_lt a
    have h2 := nv_lt b
    have h3 := Pw_mono (show a.length ≤ n - 1 by omega)
    have h4 := Pw_mono (show b.length ≤ n - 1 by omega)
    have h5 := Pw_succ (n - 1)
    rw [show n - 1 + 1 = n by omega] at h5
    rw [List.take_of_length_le (by omega), List.take_of_length_le (by omega), e] at hv
    have : c = 0 := by
      rcases (show c = 0 ∨ c = 1 by omega) with h | h
      · exact h
      · subst h; omega
    subst this
    rw [← hv]; rfl
end Go.Ev.Ar

namespace Go.Ev.Ar
open Go Go.Ev Go.Proofs

theorem rcmp_sim (a b : List UInt32) (ha : a.length < 2^32) (hb : b.length < 2^32) : Sim Tryz.prog G0 true 199 [sl a, sl b] (.int .i64 (cmpN (nv a) (nv b))) := by
  refine sim_mk tab_ok Tryz.func199 rfl (by kernel_rfl) rfl ⟨Nat.le_of_ble_eq_true rfl, Nat.le_of_ble_eq_true rfl⟩ ?_
  have h1 := ofN_len_nv a
  have h2 := ofN_len_nv b
  repeat' ((conv => whnf); first
    | with_reducible refine CallX.data ?_
    | refine CallE.mk _ _ (rtrim_sim _ (by omega)) ?_
    | refine RegE.early (Cd.mk (show regOk _ _ _ _ = true by kernel_rfl) ?_)
    | refine Cd.mk rfl ?_
    | with_reducible refine Br.dec (fun _ => ?_) (fun _ => ?_)
    | with_reducible refine Br.ndec (fun _ => ?_) (fun _ => ?_)
    | refine Res.mk ?_
    | ((with_reducible refine EqE.idW ?_); with_reducible refine EqE.mk _ (wrap_in (by omega) (by omega)) ?_))
  · rename_i h3 h4
    show D.int _ _ = D.int _ _
    rw [cmpN_lt (ofN_len_lt (by omega))]
  · rename_i h3 h4
    show D.int _ _ = D.int _ _
    rw [cmpN_gt (ofN_len_lt (by omega))]
  rename_i h3
  skip
  refine ⟨[], [5, 6, 7], [], fun m xs h => m ≤ (ofN (nv a)).length ∧ nv ((ofN (nv a)).drop m) = nv ((ofN (nv b)).drop m) ∧ ∃ i : Int, i = m - 1 ∧ xs = [.d (sl (ofN (nv a))), .d (sl (ofN (nv b))), .d (.int .i64 i)] ∧ h = [],
    ⟨_, _, _, ⟨.inl rfl, rfl, rfl, by first | rfl | (repeat first | exact all_nil _ | refine all_la _ _ _ _ _ ?_)⟩, Nat.le_refl _, ?_, _, rfl, rfl, rfl⟩, ?_⟩
  · rw [List.drop_eq_nil_of_le (Nat.le_refl _), List.drop_eq_nil_of_le (by omega)]
  rintro m xs h ⟨hm, hv, i, hi, rfl, rfl⟩
  repeat' ((conv => whnf); first
    | refine RegE.early (Cd.mk (show regOk _ _ _ _ = true by kernel_rfl) ?_)
    | refine Cd.mk rfl ?_
    | with_reducible refine Br.dec (fun _ => ?_) (fun _ => ?_)
    | refine NthE.mk _ (limbs_drop _ _ (by omega)) ?_
    | refine Res.mk ?_
    | refine LoopEnd.go _ _ ⟨.inl rfl, rfl, rfl, by first | rfl | (repeat first | exact all_nil _ | refine all_la _ _ _ _ _ ?_)⟩ ?_
    | ((with_reducible refine EqE.idW ?_); with_reducible refine EqE.mk _ (wrap_in (by omega) (by omega)) ?_)
    | refine Cd.mk (by first | omega | (dsimp only; omega) | (simp only [length_limbs, length_la, Nat.mul_one, List.length_set, List.length_take, List.length_drop, List.length_replicate, List.length_append, Int.toNat_natCast]; omega) | (rw [length_la, Nat.mul_one]) | (rw [length_limbs, Nat.mul_one]) | (refine ⟨⟨Int.le_refl _, ?_⟩, ?_⟩ <;> first | omega | (rw [Int.toNat_zero]; omega)) | (simp only [length_limbs, length_la, Nat.mul_one, List.length_set, List.length_take, List.length_drop, List.length_replicate]; exact Nat.le_refl _)) ?_)
  · rename_i h4 h5
    have e : i.toNat = m - 1 := by omega
    rw [e] at h5
    show D.int _ _ = D.int _ _
    rw [cmpN_lt]
    have h6 : nv ((ofN (nv a)).drop (m - 1)) < nv ((ofN (nv b)).drop (m - 1)) := by
      rw [nv_drop (ofN (nv a)) (m - 1) (by omega), nv_drop (ofN (nv b)) (m - 1) (by omega), show m - 1 + 1 = m by omega, hv]; omega
    simpa using lt_of_drop _ h6
  · rename_i h4 h6 h5
    have e : i.toNat = m - 1 := by omega
    rw [e] at h5
    show D.int _ _ = D.int _ _
    rw [cmpN_gt]
    have h6 : nv ((ofN (nv b)).drop (m - 1)) < nv ((ofN (nv a)).drop (m - 1)) := by
      rw [nv_drop (ofN (nv a)) (m - 1) (by omega), nv_drop (ofN (nv b)) (m - 1) (by omega), show m - 1 + 1 = m by omega, hv]; omega
    simpa using lt_of_drop _ h6
  · rename_i h4 h6 h5
    have e : i.toNat = m - 1 := by omega
    rw [e] at h5 h6
    refine ⟨m - 1, ⟨by omega, ?_, _, ?_, rfl, rfl⟩, by omega⟩
    · rw [nv_drop (ofN (nv a)) (m - 1) (by omega), nv_drop (ofN (nv b)) (m - 1) (by omega), show m - 1 + 1 = m by omega, hv]; omega
    · omega
  · rename_i h4
    have e : m = 0 := by omega
    subst e
    show D.int _ _ = D.int _ _
    rw [cmpN_eq]
    simpa using hv

theorem rsub_sim (a b : List UInt32) (ha : a.length < 2^30) (hb : b.length < 2^30) : Sim Tryz.prog G0 false 170 [sl a, sl b] (.tup [sl (ofN (nv a - nv b)), .bool (decide (nv b ≤ nv a))]) := by
  refine sim_mk tab_ok Tryz.func170 rfl (by kernel_rfl) rfl ⟨Nat.le_of_ble_eq_true rfl, Nat.le_of_ble_eq_true rfl⟩ ?_
  repeat' ((conv => whnf); first
    | with_reducible refine CallX.data ?_
    | refine CallE.mk _ _ (rcmp_sim _ _ (by omega) (by omega)) ?_
    | refine RegE.early (Cd.mk (show regOk _ _ _ _ = true by kernel_rfl) ?_)
    | refine Cd.mk rfl ?_
    | with_reducible refine Br.dec (fun _ => ?_) (fun _ => ?_)
    | refine Res.mk ?_
    | ((with_reducible refine EqE.idR ?_); refine EqE.mk _ (la_rep _) ?_)
    | refine Cd.mk (by first | omega | (dsimp only; omega) | (simp only [length_limbs, length_la, Nat.mul_one, List.length_set, List.length_take, List.length_drop, List.length_replicate, List.length_append, Int.toNat_natCast]; omega) | (rw [length_la, Nat.mul_one]) | (rw [length_limbs, Nat.mul_one]) | (refine ⟨⟨Int.le_refl _, ?_⟩, ?_⟩ <;> first | omega | (rw [Int.toNat_zero]; omega)) | (simp only [length_limbs, length_la, Nat.mul_one, List.length_set, List.length_take, List.length_drop, List.length_replicate]; exact Nat.le_refl _)) ?_)
  · rename_i h
    have h : nv a < nv b := by unfold cmpN at h; split at h <;> first | assumption | (split at h <;> simp at h)
    show D.tup _ = D.tup _
    rw [show nv a - nv b = 0 by omega, ofN_zero, decide_eq_false (by omega)]; rfl
  rename_i h
  have h : nv b ≤ nv a := by unfold cmpN at h; split at h <;> first | (simp at h; done) | omega
  skip
  refine ⟨[], [0,1,6,7,8], [16], fun m xs h => ∃ (n i c : Nat) (l : List UInt32), m = n - i ∧ n = a.length ∧ i ≤ n ∧ c ≤ 1 ∧ l.length = n ∧ nv l + nv (b.take i) = nv (a.take i) + Pw i * c ∧ (∀ j, i ≤ j → (l.getD j 0).toNat = 0) ∧
    xs = [.d (sl a), .d (sl b), .own 16 0 n 1, .d (.int .u64 c), .d (.int .i64 i)] ∧ h = [(16, false, la l)],
    ⟨_, _, _, ⟨.inl rfl, rfl, rfl, by first | rfl | (repeat first | exact all_nil _ | refine all_la _ _ _ _ _ ?_)⟩, _, 0, 0, _, rfl, rfl, by omega, by omega, by simp, by simp [nv_replicate], fun j _ => getD_rep _ _, rfl, rfl⟩, ?_⟩
  rintro m xs h ⟨n, i, c, l, rfl, hn, hi, hc, hl, hv, hz, rfl, rfl⟩
  have hxa := at_lt a i
  have hxb := at_lt b i
  repeat' ((conv => whnf); first
    | with_reducible refine CallX.data ?_
    | refine CallE.mk _ _ (rat_sim _ _) ?_
    | refine CallE.mk _ _ (rtrim_sim _ (by omega)) ?_
    | refine RegE.early (Cd.mk (show regOk _ _ _ _ = true by kernel_rfl) ?_)
    | refine Cd.mk rfl ?_
    | with_reducible refine Br.dec (fun _ => ?_) (fun _ => ?_)
    | refine Res.mk ?_
    | refine DsE.mk (limbs _) rfl ?_
    | refine LoopEnd.go _ _ ⟨.inl rfl, rfl, rfl, by first | rfl | (repeat first | exact all_nil _ | refine all_la _ _ _ _ _ ?_)⟩ ?_
    | ((with_reducible refine EqE.idW ?_); first | with_reducible refine EqE.mk _ (n_sub _ _ (by omega) (by omega)) ?_ | with_reducible refine EqE.mk _ (n_u32 _) ?_ | with_reducible refine EqE.mk _ (n_succ _ (by omega)) ?_)
    | ((with_reducible refine EqE.idF ?_); with_reducible refine EqE.mk _ (n_shr63 _) ?_)
    | ((with_reducible refine EqE.idS ?_); refine EqE.mk _ (la_setN _ _ _ _ (by first | with_reducible exact own_ix _ | with_reducible exact own_ixI _ | exact own_ix _ | exact own_ixI _ | rfl) (by first | omega | (simp only [List.length_set]; omega)) (by omega)) ?_)
    | ((with_reducible refine EqE.idL ?_); refine EqE.mk _ (sl_own _ _ _ _ (by omega) (by omega) rfl) ?_)
    | refine Cd.mk (by first | omega | (dsimp only; omega) | (simp only [length_limbs, length_la, Nat.mul_one, List.length_set, List.length_take, List.length_drop, List.length_replicate, List.length_append, Int.toNat_natCast]; omega) | (rw [length_la, Nat.mul_one]) | (rw [length_limbs, Nat.mul_one]) | (refine ⟨⟨Int.le_refl _, ?_⟩, ?_⟩ <;> first | omega | (rw [Int.toNat_zero]; omega)) | (simp only [length_limbs, length_la, Nat.mul_one, List.length_set, List.length_take, List.length_drop, List.length_replicate]; exact Nat.le_refl _)) ?_)
  · rename_i h0
    refine ⟨_, ⟨n, i + 1, _, _, rfl, hn, by omega, ?_, ?_, ?_, ?_, rfl, rfl⟩, by omega⟩
    · omega
    · simp [hl]
    · have hz := hz i (Nat.le_refl _)
      rw [at_nat] at hxa hxb
      have := borrow_step63 (p := Pw i) hxa hxb hc rfl
      rw [nv_set0 (by omega) hz (by omega), nv_take_succ', nv_take_succ', Pw_succ, at_nat, at_nat]
      omega
    · intro j hj
      rw [getD_set_ne (by omega)]; exact hz j (by omega)
  · rename_i h0
    rw [decide_eq_true h]
    show D.tup [sl _, .bool true] = D.tup [sl _, .bool true]
    have e : i = n := by omega
    have h1 := nv_lt a
    have h2 := nv_lt l
    rw [e, List.take_of_length_le (l := a) (by omega), nv_take_mod, Nat.mod_eq_of_lt (by rw [hn]; omega)] at hv
    rw [hl] at h2
    rw [← hn] at h1
    have : c = 0 := by
      rcases (show c = 0 ∨ c = 1 by omega) with h | h
      · exact h
      · subst h; omega
    subst this
    rw [show nv a - nv b = nv l by omega]

end Go.Ev.Ar

namespace Go.Ev.Ar
open Go Go.Ev Go.Proofs

set_option maxHeartbeats 1000000 in
theorem rmul_sim (A B : List UInt32) (ha : A.length < 2^30) (hb : B.length < 2^30) : Sim Tryz.prog G0 false 168 [sl A, sl B] (sl (ofN (nv A * nv B))) := by
  refine sim_mk tab_ok Tryz.func168 rfl (by kernel_rfl) rfl ⟨Nat.le_of_ble_eq_true rfl, Nat.le_of_ble_eq_true rfl⟩ ?_
  repeat' ((conv => whnf); first
    | refine RegE.early (Cd.mk (show regOk _ _ _ _ = true by kernel_rfl) ?_)
    | refine Cd.mk rfl ?_
    | ((with_reducible refine EqE.idW ?_); first | with_reducible refine EqE.mk _ (n_i64 _ (by omega)) ?_ | with_reducible refine EqE.mk _ (n_succ _ (by omega)) ?_)
    | ((with_reducible refine EqE.idR ?_); refine EqE.mk _ (la_rep _) ?_)
    | refine Cd.mk (by first | omega | (dsimp only; omega) | (simp only [length_limbs, length_la, Nat.mul_one, List.length_set, List.length_take, List.length_drop, List.length_replicate, List.length_append, Int.toNat_natCast]; omega) | (rw [length_la, Nat.mul_one]) | (rw [length_limbs, Nat.mul_one]) | (refine ⟨⟨Int.le_refl _, ?_⟩, ?_⟩ <;> first | omega | (rw [Int.toNat_zero]; omega)) | (simp only [length_limbs, length_la, Nat.mul_one, List.length_set, List.length_take, List.length_drop, List.length_replicate]; exact Nat.le_refl _)) ?_)
  refine ⟨[], [0,1,5,6], [15], fun m xs h => ∃ (n i : Nat) (l : List UInt32), m = A.length - i ∧ n = A.length + B.length + 1 ∧ i ≤ A.length ∧ l.length = n ∧ nv l = nv (A.take i) * nv B ∧ (∀ j, i + B.length ≤ j → (l.getD j 0).toNat = 0) ∧
    xs = [.d (sl A), .d (sl B), .own 15 0 n 1, .d (.int .i64 i)] ∧ h = [(15, false, la l)],
    ⟨_, _, _, ⟨.inl rfl, rfl, rfl, by first | rfl | (repeat first | exact all_nil _ | refine all_la _ _ _ _ _ ?_)⟩, _, 0, _, rfl, rfl, by omega, List.length_replicate, by simp [nv_replicate], fun j _ => getD_rep _ _, rfl, rfl⟩, ?_⟩
  rintro m xs h ⟨n, i, l, rfl, hn, hi, hl, hv, hz, rfl, rfl⟩
  repeat' ((conv => whnf); first
    | with_reducible refine CallX.data ?_
    | refine CallE.mk _ _ (rtrim_sim _ (by omega)) ?_
    | refine RegE.early (Cd.mk (show regOk _ _ _ _ = true by kernel_rfl) ?_)
    | refine Cd.mk rfl ?_
    | with_reducible refine Br.dec (fun _ => ?_) (fun _ => ?_)
    | refine Res.mk ?_
    | refine DsE.mk (limbs _) rfl ?_
    | ((with_reducible refine EqE.idL ?_); refine EqE.mk _ (sl_own _ _ _ _ (by omega) (by omega) rfl) ?_))
  · rename_i h0
    have hx := u32_lt (A.getD i 0)
    refine ⟨[], [0,1,5,6,7,8], [15], fun m xs h => ∃ (k c : Nat) (l : List UInt32), m = B.length - k ∧ k ≤ B.length ∧ c < 4294967296 ∧ l.length = n ∧ nv l + Pw (i + k) * c = nv (A.take i) * nv B + Pw i * ((A.getD i 0).toNat * nv (B.take k)) ∧ (∀ j, i + B.length ≤ j → (l.getD j 0).toNat = 0) ∧
      xs = [.d (sl A), .d (sl B), .own 15 0 n 1, .d (.int .i64 i), .d (.int .u64 c), .d (.int .i64 k)] ∧ h = [(15, false, la l)],
      ⟨_, _, _, ⟨.inl rfl, rfl, rfl, by first | rfl | (repeat first | exact all_nil _ | refine all_la _ _ _ _ _ ?_)⟩, 0, 0, _, rfl, by omega, by omega, hl, by simp [hv], hz, rfl, rfl⟩, ?_⟩
    rintro m xs h ⟨k, c, l, rfl, hk, hc, hl, hv, hz, rfl, rfl⟩
    have ho := u32_lt (l.getD (i + k) 0)
    have hy := u32_lt (B.getD k 0)
    have hxy : (A.getD i 0).toNat * (B.getD k 0).toNat ≤ 4294967295 * 4294967295 := Nat.mul_le_mul (by omega) (by omega)
    repeat' ((conv => whnf); first
      | refine RegE.early (Cd.mk (show regOk _ _ _ _ = true by kernel_rfl) ?_)
      | refine Cd.mk rfl ?_
      | with_reducible refine Br.dec (fun _ => ?_) (fun _ => ?_)
      | refine NthE.mk _ (limbs_dropN _ _ (by omega)) ?_
      | refine NthE.mk _ (la_get _ _ _ (by first | with_reducible exact own_ix _ | with_reducible exact own_ixI _ | exact own_ix _ | exact own_ixI _ | rfl) (by first | omega | (simp only [List.length_set]; omega))) ?_
      | refine LoopEnd.go _ _ ⟨.inl rfl, rfl, rfl, by first | rfl | (repeat first | exact all_nil _ | refine all_la _ _ _ _ _ ?_)⟩ ?_
      | ((with_reducible refine EqE.idW ?_); first | with_reducible refine EqE.mk _ (wrap_u64_u32 _) ?_ | with_reducible refine EqE.mk _ (n_add _ _ (by omega)) ?_ | with_reducible refine EqE.mk _ (n_mul _ _ (by omega)) ?_ | with_reducible refine EqE.mk _ (n_u32 _) ?_ | with_reducible refine EqE.mk _ (n_i64 _ (by omega)) ?_ | with_reducible refine EqE.mk _ (n_succ _ (by omega)) ?_)
      | ((with_reducible refine EqE.idF ?_); refine EqE.mk _ (n_shr _ 4294967296 _ _ rfl) ?_)
      | ((with_reducible refine EqE.idS ?_); refine EqE.mk _ (la_setN _ _ _ _ (by first | with_reducible exact own_ix _ | with_reducible exact own_ixI _ | exact own_ix _ | exact own_ixI _ | rfl) (by first | omega | (simp only [List.length_set]; omega)) (by omega)) ?_)
      | refine Cd.mk (by first | omega | (dsimp only; omega) | (simp only [length_limbs, length_la, Nat.mul_one, List.length_set, List.length_take, List.length_drop, List.length_replicate, List.length_append, Int.toNat_natCast]; omega) | (rw [length_la, Nat.mul_one]) | (rw [length_limbs, Nat.mul_one]) | (refine ⟨⟨Int.le_refl _, ?_⟩, ?_⟩ <;> first | omega | (rw [Int.toNat_zero]; omega)) | (simp only [length_limbs, length_la, Nat.mul_one, List.length_set, List.length_take, List.length_drop, List.length_replicate]; exact Nat.le_refl _)) ?_)
    · rename_i h3
      refine ⟨_, ⟨k + 1, _, _, rfl, by omega, ?_, ?_, ?_, ?_, rfl, rfl⟩, by omega⟩
      · omega
      · simp [hl]
      · have h4 := nv_set l (i + k) (UInt32.ofNat ((c + (A.getD i 0).toNat * (B.getD k 0).toNat + (l.getD (i + k) 0).toNat) % 4294967296)) (by omega)
        rw [toNat_ofNat (by omega)] at h4
        have h5 := limb_step (Pw (i + k)) (c + (A.getD i 0).toNat * (B.getD k 0).toNat + (l.getD (i + k) 0).toNat)
        rw [nv_take_succ', show i + (k + 1) = i + k + 1 from rfl, Pw_succ]
        generalize (B.getD k 0).toNat = y at *
        generalize (A.getD i 0).toNat = x at *
        have h6 : Pw i * (x * (nv (B.take k) + Pw k * y)) = Pw i * (x * nv (B.take k)) + Pw (i + k) * (x * y) := by
          rw [Pw_add]; grind
        rw [h6]
        rw [Nat.mul_add, Nat.mul_add] at h5
        omega
      · intro j hj
        rw [getD_set_ne (by omega)]; exact hz j hj
    · rename_i h3
      have e : k = B.length := by omega
      subst e
      refine ⟨_, ⟨n, i + 1, _, rfl, hn, by omega, ?_, ?_, ?_, rfl, rfl⟩, by omega⟩
      · simp [hl]
      · rw [nv_set0 (by omega) (hz _ (by omega)) (by omega), nv_take_succ']
        rw [List.take_of_length_le (Nat.le_refl _)] at hv
        rw [Nat.mod_eq_of_lt hc, hv]
        grind
      · intro j hj
        rw [getD_set_ne (by omega)]; exact hz j (by omega)
  · rename_i h0
    show sl _ = sl _
    rw [List.take_of_length_le (by omega)] at hv
    rw [hv]
end Go.Ev.Ar
