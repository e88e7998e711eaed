/- Contracts of the given functions, on data. Conditions stand in each theorem. -/
import Derived.Test.YtagjickjfjgfpaaGreatDoorGAvRefA
import Derived.Test.YtagjickjfjgfpaaGreatDoorGAvRefD
import Derived.Test.YtagjickjfjgfpaaGreatDoorGAvZ
set_option linter.unusedSimpArgs false
set_option linter.unusedVariables false
namespace Go.Ev.Ar
open Go Go.Ev Go.Proofs

theorem rnorm_sim {x : D} {n : Int} (hx : ZR x n) : Sim Tryz.prog G0 false 73 [x] (zD n) := by
  obtain ⟨b, l, hl⟩ := hx
  refine sim_mk tab_ok Tryz.func73 rfl (by kernel_rfl) rfl ⟨Nat.le_of_ble_eq_true rfl, Nat.le_of_ble_eq_true rfl⟩ ?_
  repeat' ((conv => whnf); first
    | with_reducible refine CallX.data ?_
    | refine CallE.mk _ _ (rtrim_sim _ (by omega)) ?_
    | refine RegE.early (Cd.mk (show regOk _ _ _ _ = true by kernel_rfl) ?_)
    | refine Cd.mk rfl ?_
    | refine Br.t ?_
    | refine Br.f ?_
    | refine Br.mk (fun _ => ?_) (fun _ => ?_)
    | refine NthE.mk _ rfl ?_
    | (refine TkE.fL ?_; (conv => whnf); fail_if_success (show forceL _ _))
    | refine Res.mk ?_
    | ((with_reducible refine EqE.idS ?_); (refine EqE.fP ?_; (conv => whnf); fail_if_success (show forceL _ _)))
    | refine Cd.mk (Nat.le_of_ble_eq_true rfl) ?_)
  all_goals
    show zD _ = D.agg [D.bool _, sl (ofN (nv l))]
    refine (zD_mk ?_).symm
    simp only [len_pos, *, Bool.true_and, Bool.false_and]
theorem rnorm_sim' {b : Bool} {l : List UInt32} {n : Int} (hl : l.length ≤ 4194304) (h : zv b l = n) : Sim Tryz.prog G0 false 73 [.agg [.bool b, sl l]] (zD n) := h ▸ rnorm_sim (.mk b l hl)
theorem rsameint_sim {m n : Int} (hm : Zt 134217728 m) (hn : Zt 134217728 n) : Sim Tryz.prog G0 true 156 [zD m, zD n] (.bool (decide (m = n))) := by
  have e1 := hm.len (k := 4194304) (by decide)
  have e2 := hn.len (k := 4194304) (by decide)
  refine sim_mk tab_ok Tryz.func156 rfl (by kernel_rfl) rfl ⟨Nat.le_of_ble_eq_true rfl, Nat.le_of_ble_eq_true rfl⟩ ?_
  repeat' ((conv => whnf); first
    | with_reducible refine CallX.data ?_
    | refine CallE.mk _ _ (rsame_sim _ _ (by omega) (by omega)) ?_
    | refine RegE.early (Cd.mk (show regOk _ _ _ _ = true by kernel_rfl) ?_)
    | refine Cd.mk rfl ?_
    | refine Br.t ?_
    | refine Br.f ?_
    | refine Br.mk (fun _ => ?_) (fun _ => ?_)
    | refine NthE.mk _ rfl ?_
    | refine Res.mk ?_)
  · rename_i h
    show D.bool _ = D.bool _
    congr 1
    refine decide_eq_decide.2 ⟨fun e => by rw [e], fun e => ?_⟩
    have h1 := ofN_inj e
    have h2 := eq_of_beq h
    have h3 : m < 0 ↔ n < 0 := by simpa [zneg] using h2
    omega
  · rename_i h
    show D.bool _ = D.bool _
    congr 1
    refine decide_eq_false fun e => ?_
    subst e; simp at h
theorem rneg_sim {x : D} {n : Int} (hx : ZR x n) : Sim Tryz.prog G0 false 120 [x] (zD (-n)) := by
  obtain ⟨b, l, hl⟩ := hx
  refine sim_mk tab_ok Tryz.func120 rfl (by kernel_rfl) rfl ⟨Nat.le_of_ble_eq_true rfl, Nat.le_of_ble_eq_true rfl⟩ ?_
  repeat' ((conv => whnf); first
    | with_reducible refine CallX.data ?_
    | refine CallE.mk _ _ (rnorm_sim' (n := -zv b l) (by omega) (by cases b <;> simp [zv])) ?_
    | refine RegE.early (Cd.mk (show regOk _ _ _ _ = true by kernel_rfl) ?_)
    | refine Cd.mk rfl ?_
    | refine NthE.mk _ rfl ?_
    | (refine TkE.fL ?_; (conv => whnf); fail_if_success (show forceL _ _))
    | refine Res.mk ?_
    | ((with_reducible refine EqE.idS ?_); (refine EqE.fP ?_; (conv => whnf); fail_if_success (show forceL _ _)))
    | refine Cd.mk (Nat.le_of_ble_eq_true rfl) ?_)
  rfl
theorem rsign_sim {x : D} {n : Int} (hx : ZR x n) : Sim Tryz.prog G0 true 77 [x] (.int .i64 (Int.sign n)) := by
  obtain ⟨b, l, hl⟩ := hx
  refine sim_mk tab_ok Tryz.func77 rfl (by kernel_rfl) rfl ⟨Nat.le_of_ble_eq_true rfl, Nat.le_of_ble_eq_true rfl⟩ ?_
  repeat' ((conv => whnf); first
    | with_reducible refine CallX.data ?_
    | refine CallE.mk _ _ (rnorm_sim (.mk _ _ hl)) ?_
    | refine RegE.early (Cd.mk (show regOk _ _ _ _ = true by kernel_rfl) ?_)
    | refine Cd.mk rfl ?_
    | with_reducible refine Br.dec (fun _ => ?_) (fun _ => ?_)
    | refine Br.mk (fun _ => ?_) (fun _ => ?_)
    | refine NthE.mk _ rfl ?_
    | (refine TkE.fL ?_; (conv => whnf); fail_if_success (show forceL _ _))
    | refine Res.mk ?_
    | ((with_reducible refine EqE.idS ?_); (refine EqE.fP ?_; (conv => whnf); fail_if_success (show forceL _ _)))
    | refine Cd.mk (Nat.le_of_ble_eq_true rfl) ?_)
  all_goals show D.int _ _ = D.int _ _
  · rename_i h
    have h1 := ofN_len_zero (n := (zv b l).natAbs)
    have h2 : zv b l = 0 := by omega
    rw [h2]; rfl
  · rename_i h h2
    rw [Int.sign_eq_neg_one_of_neg (of_decide_eq_true h2)]
  · rename_i h h2
    have h1 := ofN_len_zero (n := (zv b l).natAbs)
    have h2 := of_decide_eq_false h2
    rw [Int.sign_eq_one_of_pos (by omega)]
theorem zpm (m n : Int) (c : Bool) (k : Nat) (h : (zneg m == zneg n) = true) : zv (zneg m) (ofN (nv (ofN m.natAbs) + nv (ofN n.natAbs))) = m + n := by
  have h2 := eq_of_beq h
  have h3 : m < 0 ↔ n < 0 := by simpa [zneg] using h2
  unfold zv zneg; rw [nv_ofN, nv_ofN, nv_ofN]
  by_cases h4 : m < 0
  · rw [decide_eq_true h4, if_pos rfl]; omega
  · rw [decide_eq_false h4, if_neg (by decide)]; omega
theorem zpm2 (m n : Int) (h : (zneg m == zneg n) = false) (h2 : nv (ofN n.natAbs) ≤ nv (ofN m.natAbs)) : zv (zneg m) (ofN (nv (ofN m.natAbs) - nv (ofN n.natAbs))) = m + n := by
  have h1 := ne_of_beq_false h
  have h3 : ¬ (m < 0 ↔ n < 0) := by simpa [zneg] using h1
  rw [nv_ofN, nv_ofN] at h2
  unfold zv zneg; rw [nv_ofN, nv_ofN, nv_ofN]
  by_cases h4 : m < 0
  · rw [decide_eq_true h4, if_pos rfl]; omega
  · rw [decide_eq_false h4, if_neg (by decide)]; omega
theorem zpm3 (m n : Int) (h : (zneg m == zneg n) = false) (h2 : ¬ nv (ofN n.natAbs) ≤ nv (ofN m.natAbs)) : zv (zneg n) (ofN (nv (ofN n.natAbs) - nv (ofN m.natAbs))) = m + n := by
  rw [zpm2 n m (by rw [Bool.beq_comm]; exact h) (by omega), Int.add_comm]
theorem len_addZ {m n : Int} (hm : Zt 134217727 m) (hn : Zt 134217727 n) : (ofN (nv (ofN m.natAbs) + nv (ofN n.natAbs))).length ≤ 4194304 := by
  have h : Zt 134217728 ((m.natAbs : Int) + (n.natAbs : Int)) := Zt.add (hm.le (n := m.natAbs) (by omega)) (hn.le (n := n.natAbs) (by omega)) (by decide)
  have h2 := h.len (k := 4194304) (by decide)
  rw [nv_ofN, nv_ofN]
  rwa [show ((m.natAbs : Int) + (n.natAbs : Int)).natAbs = m.natAbs + n.natAbs by omega] at h2
theorem len_subZ {m n : Int} (hm : Zt 134217727 m) : (ofN (nv (ofN m.natAbs) - nv (ofN n.natAbs))).length ≤ 4194304 := by
  rw [nv_ofN, nv_ofN]
  have h : Zt 134217727 ((m.natAbs - n.natAbs : Nat) : Int) := hm.le (by omega)
  exact h.len (by decide)
theorem raddint_sim {x y : D} {m n : Int} (hx : ZR x m) (hy : ZR y n) (hm : Zt 134217727 m) (hn : Zt 134217727 n) : Sim Tryz.prog G0 false 118 [x, y] (zD (m + n)) := by
  have e1 := hm.len (k := 4194304) (by decide)
  have e2 := hn.len (k := 4194304) (by decide)
  have e3 := len_addZ hm hn
  have e4 := len_subZ (n := n) hm
  have e5 := len_subZ (n := m) hn
  obtain ⟨b, l, hl⟩ := hx
  obtain ⟨c, k, hk⟩ := hy
  refine sim_mk tab_ok Tryz.func118 rfl (by kernel_rfl) rfl ⟨Nat.le_of_ble_eq_true rfl, Nat.le_of_ble_eq_true rfl⟩ ?_
  repeat' ((conv => whnf); first
    | with_reducible refine CallX.data ?_
    | refine CallE.mk _ _ (rnorm_sim (.mk _ _ hl)) ?_
    | refine CallE.mk _ _ (rnorm_sim (.mk _ _ hk)) ?_
    | refine CallE.mk _ _ (rnorm_sim (.mk _ _ e3)) ?_
    | refine CallE.mk _ _ (rnorm_sim (.mk _ _ e4)) ?_
    | refine CallE.mk _ _ (rnorm_sim (.mk _ _ e5)) ?_
    | refine CallE.mk _ _ (radd_sim _ _ (by omega) (by omega)) ?_
    | refine CallE.mk _ _ (rsub_sim _ _ (by omega) (by omega)) ?_
    | refine RegE.early (Cd.mk (show regOk _ _ _ _ = true by kernel_rfl) ?_)
    | refine Cd.mk rfl ?_
    | with_reducible refine Br.dec (fun _ => ?_) (fun _ => ?_)
    | refine Br.mk (fun _ => ?_) (fun _ => ?_)
    | refine NthE.mk _ rfl ?_
    | (refine TkE.fL ?_; (conv => whnf); fail_if_success (show forceL _ _))
    | refine Res.mk ?_
    | ((with_reducible refine EqE.idS ?_); (refine EqE.fP ?_; (conv => whnf); fail_if_success (show forceL _ _)))
    | refine Cd.mk (Nat.le_of_ble_eq_true rfl) ?_)
  · rename_i h
    show zD _ = zD _
    exact congrArg zD (zpm _ _ true 0 h).symm
  · rename_i h h2
    show zD _ = zD _
    exact congrArg zD (zpm2 _ _ h h2).symm
  · rename_i h h2
    show zD _ = zD _
    exact congrArg zD (zpm3 _ _ h h2).symm
theorem len_mulZ {m n : Int} (hm : Zt 67108864 m) (hn : Zt 67108864 n) : (ofN (nv (ofN m.natAbs) * nv (ofN n.natAbs))).length ≤ 4194304 := by
  rw [nv_ofN, nv_ofN, ← Int.natAbs_mul]
  exact (hm.mul hn (c := 134217728) (by decide)).len (by decide)
theorem zmulZ (m n : Int) : zv (!(zneg m == zneg n)) (ofN (nv (ofN m.natAbs) * nv (ofN n.natAbs))) = m * n := by
  conv => rhs; rw [← zv_self m, ← zv_self n]
  unfold zv; rw [nv_ofN, Int.natCast_mul]; cases zneg m <;> cases zneg n <;> simp [Int.neg_mul, Int.mul_neg]
theorem rmulint_sim {x y : D} {m n : Int} (hx : ZR x m) (hy : ZR y n) (hm : Zt 67108864 m) (hn : Zt 67108864 n) : Sim Tryz.prog G0 false 117 [x, y] (zD (m * n)) := by
  have e1 := hm.len (k := 4194304) (by decide)
  have e2 := hn.len (k := 4194304) (by decide)
  have e3 := len_mulZ hm hn
  obtain ⟨b, l, hl⟩ := hx
  obtain ⟨c, k, hk⟩ := hy
  refine sim_mk tab_ok Tryz.func117 rfl (by kernel_rfl) rfl ⟨Nat.le_of_ble_eq_true rfl, Nat.le_of_ble_eq_true rfl⟩ ?_
  repeat' ((conv => whnf); first
    | refine CallE.mk _ _ (rnorm_sim (.mk _ _ hl)) ?_
    | refine CallE.mk _ _ (rnorm_sim (.mk _ _ hk)) ?_
    | refine CallE.mk _ _ (rnorm_sim (.mk _ _ e3)) ?_
    | refine CallE.mk _ _ (rmul_sim _ _ (by omega) (by omega)) ?_
    | refine RegE.early (Cd.mk (show regOk _ _ _ _ = true by kernel_rfl) ?_)
    | refine Cd.mk rfl ?_
    | refine NthE.mk _ rfl ?_
    | (refine TkE.fL ?_; (conv => whnf); fail_if_success (show forceL _ _))
    | refine Res.mk ?_
    | ((with_reducible refine EqE.idS ?_); (refine EqE.fP ?_; (conv => whnf); fail_if_success (show forceL _ _)))
    | refine Cd.mk (Nat.le_of_ble_eq_true rfl) ?_)
  show zD _ = zD _
  exact congrArg zD (zmulZ _ _).symm
theorem rshlint_sim {x : D} {m : Int} (n : Int) (hx : ZR x m) (hm : Zt 120000000 m) (hn : n ≤ 100000) : Sim Tryz.prog G0 false 119 [x, .int .i64 n] (zD (m * 2 ^ n.toNat)) := by
  have e1 := hm.len (k := 3750000) (by decide)
  have e3 := len_shl (j := 3125) e1 (show n ≤ 32 * (3125 : Nat) by omega)
  obtain ⟨b, l, hl⟩ := hx
  rw [zv_natAbs] at e1 e3
  refine sim_mk tab_ok Tryz.func119 rfl (by kernel_rfl) rfl ⟨Nat.le_of_ble_eq_true rfl, Nat.le_of_ble_eq_true rfl⟩ ?_
  repeat' ((conv => whnf); first
    | refine CallE.mk _ _ (rtrim_sim _ (by omega)) ?_
    | refine CallE.mk _ _ (rshl_sim _ _ (by omega) (by omega)) ?_
    | refine CallE.mk _ _ (rnorm_sim (.mk _ _ (by omega))) ?_
    | refine RegE.early (Cd.mk (show regOk _ _ _ _ = true by kernel_rfl) ?_)
    | refine Cd.mk rfl ?_
    | refine NthE.mk _ rfl ?_
    | (refine TkE.fL ?_; (conv => whnf); fail_if_success (show forceL _ _))
    | refine Res.mk ?_
    | ((with_reducible refine EqE.idS ?_); (refine EqE.fP ?_; (conv => whnf); fail_if_success (show forceL _ _)))
    | refine Cd.mk (Nat.le_of_ble_eq_true rfl) ?_)
  show zD _ = zD (zv b (ofN (nv (ofN (nv l)) * 2 ^ n.toNat)))
  rw [nv_ofN, zv_mul]
theorem rofint_sim (n : Int) (h1 : -9223372036854775808 ≤ n) (h2 : n ≤ 9223372036854775807) : Sim Tryz.prog G0 false 76 [.int .i64 n] (zD n) := by
  refine sim_mk tab_ok Tryz.func76 rfl (by kernel_rfl) rfl ⟨Nat.le_of_ble_eq_true rfl, Nat.le_of_ble_eq_true rfl⟩ ?_
  rcases Int.lt_or_le n 0 with h | h
  · have w1 : IntKind.u64.wrap n = ((18446744073709551616 - n.natAbs : Nat) : Int) := by
      have e : IntKind.u64.wrap n = if (false && decide (n % 2 ^ 64 ≥ 2 ^ 63)) = true then n % 2 ^ 64 - 2 ^ 64 else n % 2 ^ 64 := rfl
      rw [e, if_neg (by simp)]; omega
    have w2 : IntKind.u64.wrap (0 - ((18446744073709551616 - n.natAbs : Nat) : Int)) = ((n.natAbs : Nat) : Int) := by
      generalize hx : (0 - ((18446744073709551616 - n.natAbs : Nat) : Int)) = x
      have e : IntKind.u64.wrap x = if (false && decide (x % 2 ^ 64 ≥ 2 ^ 63)) = true then x % 2 ^ 64 - 2 ^ 64 else x % 2 ^ 64 := rfl
      rw [e, if_neg (by simp)]; omega
    repeat' ((conv => whnf); first
      | with_reducible refine CallX.data ?_
      | refine CallE.mk _ _ (rnorm_sim (.mk _ _ (by simp))) ?_
      | refine DsE.mk (limbs [UInt32.ofNat n.natAbs, UInt32.ofNat (n.natAbs / 4294967296)]) (limbs2 _ _) ?_
      | refine RegE.early (Cd.mk (show regOk _ _ _ _ = true by kernel_rfl) ?_)
      | refine Cd.mk rfl ?_
      | with_reducible refine Br.dec (fun _ => ?_) (fun _ => ?_)
      | (refine TkE.fL ?_; (conv => whnf); fail_if_success (show forceL _ _))
      | refine Res.mk ?_
      | ((with_reducible refine EqE.idW ?_); first | refine EqE.mk _ w1 ?_ | refine EqE.mk _ w2 ?_ | with_reducible refine EqE.mk _ (n_u32 _) ?_)
      | ((with_reducible refine EqE.idF ?_); first | with_reducible refine EqE.mk _ (n_shrv _ _ (by omega)) ?_ | refine EqE.mk _ (n_shr _ 4294967296 _ _ rfl) ?_)
      | ((with_reducible refine EqE.idS ?_); (refine EqE.fP ?_; (conv => whnf); fail_if_success (show forceL _ _)))
      | ((with_reducible refine EqE.idL ?_); refine EqE.mk (sl [UInt32.ofNat n.natAbs, UInt32.ofNat (n.natAbs / 4294967296)]) rfl ?_)
      | refine Cd.mk (Nat.le_of_ble_eq_true rfl) ?_
      | refine Cd.mk (by first | omega | (dsimp only; omega) | (simp only [length_limbs, length_la, Nat.mul_one, List.length_set, List.length_take, List.length_drop, List.length_replicate, List.length_append, Int.toNat_natCast]; omega) | (rw [length_la, Nat.mul_one]) | (rw [length_limbs, Nat.mul_one]) | (refine ⟨⟨Int.le_refl _, ?_⟩, ?_⟩ <;> first | omega | (rw [Int.toNat_zero]; omega)) | (simp only [length_limbs, length_la, Nat.mul_one, List.length_set, List.length_take, List.length_drop, List.length_replicate]; exact Nat.le_refl _)) ?_)
    · show zD _ = zD (zv (decide (n < 0)) _)
      rw [decide_eq_true h, zv_true, nv2 (by omega)]; congr 1; omega
    · omega
  · have w1 : IntKind.u64.wrap n = ((n.natAbs : Nat) : Int) := by rw [wrap_u64 h (by omega)]; omega
    repeat' ((conv => whnf); first
      | with_reducible refine CallX.data ?_
      | refine CallE.mk _ _ (rnorm_sim (.mk _ _ (by simp))) ?_
      | refine DsE.mk (limbs [UInt32.ofNat n.natAbs, UInt32.ofNat (n.natAbs / 4294967296)]) (limbs2 _ _) ?_
      | refine RegE.early (Cd.mk (show regOk _ _ _ _ = true by kernel_rfl) ?_)
      | refine Cd.mk rfl ?_
      | with_reducible refine Br.dec (fun _ => ?_) (fun _ => ?_)
      | (refine TkE.fL ?_; (conv => whnf); fail_if_success (show forceL _ _))
      | refine Res.mk ?_
      | ((with_reducible refine EqE.idW ?_); first | refine EqE.mk _ w1 ?_ | with_reducible refine EqE.mk _ (n_sub _ _ (by omega) (by omega)) ?_ | with_reducible refine EqE.mk _ (n_u32 _) ?_)
      | ((with_reducible refine EqE.idF ?_); first | with_reducible refine EqE.mk _ (n_shrv _ _ (by omega)) ?_ | refine EqE.mk _ (n_shr _ 4294967296 _ _ rfl) ?_)
      | ((with_reducible refine EqE.idS ?_); (refine EqE.fP ?_; (conv => whnf); fail_if_success (show forceL _ _)))
      | ((with_reducible refine EqE.idL ?_); refine EqE.mk (sl [UInt32.ofNat n.natAbs, UInt32.ofNat (n.natAbs / 4294967296)]) rfl ?_)
      | refine Cd.mk (Nat.le_of_ble_eq_true rfl) ?_
      | refine Cd.mk (by first | omega | (dsimp only; omega) | (simp only [length_limbs, length_la, Nat.mul_one, List.length_set, List.length_take, List.length_drop, List.length_replicate, List.length_append, Int.toNat_natCast]; omega) | (rw [length_la, Nat.mul_one]) | (rw [length_limbs, Nat.mul_one]) | (refine ⟨⟨Int.le_refl _, ?_⟩, ?_⟩ <;> first | omega | (rw [Int.toNat_zero]; omega)) | (simp only [length_limbs, length_la, Nat.mul_one, List.length_set, List.length_take, List.length_drop, List.length_replicate]; exact Nat.le_refl _)) ?_)
    · omega
    · show zD _ = zD (zv (decide (n < 0)) _)
      rw [decide_eq_false (by omega), zv_false, nv2 (by omega)]; congr 1; omega
theorem cutOk_len (l : List UInt32) : cutOk l = decide ((ofN (nv l)).length = l.length) := by
  by_cases h : cutOk l = true
  · rw [h, ofN_nv h]; simp
  · rw [Bool.not_eq_true] at h
    rw [h]
    symm
    refine decide_eq_false fun e => ?_
    have h2 : l ≠ [] := by rintro rfl; simp [cutOk] at h
    have h3 : (l.getD (l.length - 1) 0).toNat = 0 := by
      have h4 := mt (cutOk_iff l).2 (by rw [h]; decide)
      exact Classical.byContradiction fun h5 => h4 (.inr h5)
    have h4 := nv_dropTop h2 h3
    have h5 := ofN_len_nv (l.take (l.length - 1))
    rw [h4, List.length_take] at h5
    have : 0 < l.length := List.length_pos_iff.2 h2
    omega
theorem risint_sim {b : Bool} {l : List UInt32} (hl : l.length ≤ 4194304) : Sim Tryz.prog G0 true 157 [.agg [.bool b, sl l]] (.bool (cutOk l && (decide (0 < l.length) || !b))) := by
  have h0 := ofN_len_nv l
  rw [cutOk_len]
  refine sim_mk tab_ok Tryz.func157 rfl (by kernel_rfl) rfl ⟨Nat.le_of_ble_eq_true rfl, Nat.le_of_ble_eq_true rfl⟩ ?_
  repeat' ((conv => whnf); first
    | refine CallE.mk _ _ (rtrim_sim _ (by omega)) ?_
    | refine RegE.early (Cd.mk (show regOk _ _ _ _ = true by kernel_rfl) ?_)
    | refine Cd.mk rfl ?_
    | refine Br.t ?_
    | refine Br.f ?_
    | with_reducible refine Br.dec (fun _ => ?_) (fun _ => ?_)
    | refine Br.mk (fun _ => ?_) (fun _ => ?_)
    | refine NthE.mk _ rfl ?_
    | refine Res.mk ?_)
  all_goals show D.bool _ = D.bool _
  · rename_i h h2
    rw [decide_eq_true (by omega), h2]; simp
  · rename_i h h2
    rw [decide_eq_true (by omega), h2]
    simp
  · rename_i h
    rw [decide_eq_false (by omega)]; rfl
end Go.Ev.Ar

namespace Go.Ev.Ar
open Go Go.Ev Go.Proofs

theorem rexact_sim {x : D} {m e : Int} (hx : ZR x m) (hm : Zt 300000 m) (h5 : m ≠ 0 → tzn m.natAbs ≤ 100000) (h1 : -1099511627776 ≤ e) (h2 : e ≤ 1099511627776) : Sim Tryz.prog G0 false 116 [x, .int .i64 e] (dyD (dof m e)) := by
  obtain ⟨b, l, hl⟩ := hx
  have e1 := hm.len (k := 10000) (by decide)
  have h4 := ofN_len_zero (n := (zv b l).natAbs)
  refine sim_mk tab_ok Tryz.func116 rfl (by kernel_rfl) rfl ⟨Nat.le_of_ble_eq_true rfl, Nat.le_of_ble_eq_true rfl⟩ ?_
  by_cases h0 : zv b l = 0
  · rw [h0, dof_zero, ← dyD_zero]
    repeat' ((conv => whnf); first
      | with_reducible refine CallX.data ?_
      | with_reducible refine Br.dec (fun _ => ?_) (fun h => absurd (by omega) h)
      | refine CallE.mk _ _ (rnorm_sim (.mk _ _ hl)) ?_
      | refine RegE.early (Cd.mk (show regOk _ _ _ _ = true by kernel_rfl) ?_)
      | refine Cd.mk rfl ?_
      | refine NthE.mk _ rfl ?_
      | (refine TkE.fL ?_; (conv => whnf); fail_if_success (show forceL _ _))
      | refine Res.mk ?_
      | ((with_reducible refine EqE.idS ?_); (refine EqE.fP ?_; (conv => whnf); fail_if_success (show forceL _ _)))
      | refine Cd.mk (Nat.le_of_ble_eq_true rfl) ?_)
    rfl
  · have h3 : nv (ofN (zv b l).natAbs) ≠ 0 := by rw [nv_ofN]; omega
    have h5 : tzn (nv (ofN (zv b l).natAbs)) ≤ 100000 := by rw [nv_ofN]; exact h5 h0
    rw [← dyD_dof e h0]
    repeat' ((conv => whnf); first
      | with_reducible refine CallX.data ?_
      | with_reducible refine Br.dec (fun h => absurd h (by omega)) (fun _ => ?_)
      | refine CallE.mk _ _ (rnorm_sim (.mk _ _ hl)) ?_
      | refine CallE.mk _ _ (rlow_sim _ (by omega) h3) ?_
      | refine CallE.mk _ _ (rshr_sim _ _ (by omega) (by omega)) ?_
      | refine RegE.early (Cd.mk (show regOk _ _ _ _ = true by kernel_rfl) ?_)
      | refine Cd.mk rfl ?_
      | refine NthE.mk _ rfl ?_
      | (refine TkE.fL ?_; (conv => whnf); fail_if_success (show forceL _ _))
      | refine Res.mk ?_
      | ((with_reducible refine EqE.idW ?_); refine EqE.mk _ (wrap_in (by omega) (by omega)) ?_)
      | ((with_reducible refine EqE.idS ?_); (refine EqE.fP ?_; (conv => whnf); fail_if_success (show forceL _ _)))
      | refine Cd.mk (Nat.le_of_ble_eq_true rfl) ?_)
    show D.agg [D.bool _, sl _, D.int _ _] = D.agg [D.bool _, sl (ofN (nv (ofN (zv b l).natAbs) / 2 ^ tzn (nv (ofN (zv b l).natAbs)))), D.int _ (e + tzn (nv (ofN (zv b l).natAbs)))]
    rw [nv_ofN]
theorem rmake_sim {x : D} {m : Int} (e : Int) (hx : ZR x m) (hm : Zt 100000 m) : Sim Tryz.prog G0 false 19 [x, .int .i64 e] (dyD (dof m (min (max e (-20000)) 20000))) := by
  obtain ⟨b, l, hl⟩ := hx
  have e1 := hm.len (k := 3125) (by decide)
  have h4 := ofN_len_zero (n := (zv b l).natAbs)
  have e3 : max (-20000) (min e 20000) = min (max e (-20000)) 20000 := by omega
  refine sim_mk tab_ok Tryz.func19 rfl (by kernel_rfl) rfl ⟨Nat.le_of_ble_eq_true rfl, Nat.le_of_ble_eq_true rfl⟩ ?_
  by_cases h0 : zv b l = 0
  · rw [h0, dof_zero, ← dyD_zero]
    repeat' ((conv => whnf); first
      | with_reducible refine CallX.data ?_
      | with_reducible refine Br.dec (fun _ => ?_) (fun h => absurd (by omega) h)
      | refine CallE.mk _ _ (rnorm_sim (.mk _ _ hl)) ?_
      | refine RegE.early (Cd.mk (show regOk _ _ _ _ = true by kernel_rfl) ?_)
      | refine Cd.mk rfl ?_
      | refine NthE.mk _ rfl ?_
      | (refine TkE.fL ?_; (conv => whnf); fail_if_success (show forceL _ _))
      | refine Res.mk ?_
      | ((with_reducible refine EqE.idS ?_); (refine EqE.fP ?_; (conv => whnf); fail_if_success (show forceL _ _)))
      | refine Cd.mk (Nat.le_of_ble_eq_true rfl) ?_)
    rfl
  · have h3 : nv (ofN (zv b l).natAbs) ≠ 0 := by rw [nv_ofN]; omega
    have h5 : tzn (nv (ofN (zv b l).natAbs)) < 100000 := by rw [nv_ofN]; exact hm.tz h0
    rw [← dyD_dof _ h0]
    repeat' ((conv => whnf); first
      | with_reducible refine CallX.data ?_
      | with_reducible refine Br.dec (fun h => absurd h (by omega)) (fun _ => ?_)
      | refine CallE.mk _ _ (rnorm_sim (.mk _ _ hl)) ?_
      | refine CallE.mk _ _ (rlow_sim _ (by omega) h3) ?_
      | refine CallE.mk _ _ (rshr_sim _ _ (by omega) (by omega)) ?_
      | refine RegE.early (Cd.mk (show regOk _ _ _ _ = true by kernel_rfl) ?_)
      | refine Cd.mk rfl ?_
      | refine NthE.mk _ rfl ?_
      | (refine TkE.fL ?_; (conv => whnf); fail_if_success (show forceL _ _))
      | refine Res.mk ?_
      | ((with_reducible refine EqE.idW ?_); refine EqE.mk _ (wrap_in (by omega) (by omega)) ?_)
      | ((with_reducible refine EqE.idI ?_); first | refine EqE.mk _ (max_eq _ _) ?_ | refine EqE.mk _ (min_eq _ _) ?_)
      | ((with_reducible refine EqE.idS ?_); (refine EqE.fP ?_; (conv => whnf); fail_if_success (show forceL _ _)))
      | refine Cd.mk (Nat.le_of_ble_eq_true rfl) ?_)
    show D.agg [D.bool _, sl _, D.int _ _] = D.agg [D.bool _, sl (ofN (nv (ofN (zv b l).natAbs) / 2 ^ tzn (nv (ofN (zv b l).natAbs)))), D.int _ (max (-20000) (min e 20000) + tzn (nv (ofN (zv b l).natAbs)))]
    rw [nv_ofN, e3]
/-- few limbs, a moderate exponent -/
inductive DyF : D → Dyadic → Prop where
  | mk (b : Bool) (l : List UInt32) (e : Int) (hl : l.length ≤ 3125) (h1 : -1048576 ≤ e) (h2 : e ≤ 1048576) : DyF (.agg [.bool b, sl l, .int .i64 e]) (dof (zv b l) e)
theorem rExact_sim {x : D} {q : Dyadic} (hx : DyF x q) : Sim Tryz.prog G0 false 79 [x] (dyD q) := by
  obtain ⟨b, l, e, hl, h1, h2⟩ := hx
  refine sim_mk tab_ok Tryz.func79 rfl (by kernel_rfl) rfl ⟨Nat.le_of_ble_eq_true rfl, Nat.le_of_ble_eq_true rfl⟩ ?_
  repeat' ((conv => whnf); first
    | with_reducible refine CallX.data ?_
    | refine CallE.mk _ _ (rexact_sim (.mk b l (by omega)) (.of_len hl (by decide)) (fun h => Nat.le_of_lt (Zt.tz (.of_len (h := 100000) hl (by decide)) h)) (by omega) (by omega)) ?_
    | refine RegE.early (Cd.mk (show regOk _ _ _ _ = true by kernel_rfl) ?_)
    | refine Cd.mk rfl ?_
    | refine NthE.mk _ rfl ?_
    | (refine TkE.fL ?_; (conv => whnf); fail_if_success (show forceL _ _))
    | refine Res.mk ?_
    | ((with_reducible refine EqE.idS ?_); (refine EqE.fP ?_; (conv => whnf); fail_if_success (show forceL _ _)))
    | refine Cd.mk (Nat.le_of_ble_eq_true rfl) ?_)
  rfl
theorem rofd_sim (n : Int) (h1 : -9223372036854775808 ≤ n) (h2 : n ≤ 9223372036854775807) : Sim Tryz.prog G0 false 20 [.int .i64 n] (dyD (dof n 0)) := by
  have h3 : ∀ k, 64 ≤ k → Zt k n := fun k hk => .small (by omega) hk
  refine sim_mk tab_ok Tryz.func20 rfl (by kernel_rfl) rfl ⟨Nat.le_of_ble_eq_true rfl, Nat.le_of_ble_eq_true rfl⟩ ?_
  repeat' ((conv => whnf); first
    | with_reducible refine CallX.data ?_
    | refine CallE.mk _ _ (rofint_sim _ (by omega) (by omega)) ?_
    | refine CallE.mk _ _ (rmake_sim _ (.of (h3 _ (by decide))) (h3 _ (by decide))) ?_
    | refine RegE.early (Cd.mk (show regOk _ _ _ _ = true by kernel_rfl) ?_)
    | refine Cd.mk rfl ?_
    | (refine TkE.fL ?_; (conv => whnf); fail_if_success (show forceL _ _))
    | refine Res.mk ?_
    | ((with_reducible refine EqE.idS ?_); (refine EqE.fP ?_; (conv => whnf); fail_if_success (show forceL _ _)))
    | refine Cd.mk (Nat.le_of_ble_eq_true rfl) ?_)
  rfl
theorem requal_sim {p q : Dyadic} (hp : Ht 50000 p) (hq : Ht 50000 q) : Sim Tryz.prog G0 true 100 [dyD p, dyD q] (.bool (decide (p = q))) := by
  refine sim_mk tab_ok Tryz.func100 rfl (by kernel_rfl) rfl ⟨Nat.le_of_ble_eq_true rfl, Nat.le_of_ble_eq_true rfl⟩ ?_
  repeat' ((conv => whnf); first
    | with_reducible refine CallX.data ?_
    | refine CallE.mk _ _ (rsameint_sim (m := dman p) (n := dman q) (hp.parts.1.mono (by decide)) (hq.parts.1.mono (by decide))) ?_
    | refine RegE.early (Cd.mk (show regOk _ _ _ _ = true by kernel_rfl) ?_)
    | refine Cd.mk rfl ?_
    | refine Br.t ?_
    | refine Br.f ?_
    | with_reducible refine Br.dec (fun _ => ?_) (fun _ => ?_)
    | refine NthE.mk _ rfl ?_
    | (refine TkE.fL ?_; (conv => whnf); fail_if_success (show forceL _ _))
    | refine Res.mk ?_)
  · rename_i h
    show D.bool _ = D.bool _
    congr 1
    exact decide_eq_decide.2 ⟨fun e => by rw [e], fun e => dyD_inj e h⟩
  · rename_i h
    show D.bool _ = D.bool _
    congr 1
    exact decide_eq_false fun e => h (by rw [e])
theorem rdsign_sim {p : Dyadic} (hp : Ht 50000 p) : Sim Tryz.prog G0 true 23 [dyD p] (.int .i64 (dsg p)) := by
  refine sim_mk tab_ok Tryz.func23 rfl (by kernel_rfl) rfl ⟨Nat.le_of_ble_eq_true rfl, Nat.le_of_ble_eq_true rfl⟩ ?_
  repeat' ((conv => whnf); first
    | with_reducible refine CallX.data ?_
    | refine CallE.mk _ _ (rsign_sim (.of (n := dman p) (hp.parts.1.mono (by decide)))) ?_
    | refine RegE.early (Cd.mk (show regOk _ _ _ _ = true by kernel_rfl) ?_)
    | refine Cd.mk rfl ?_
    | (refine TkE.fL ?_; (conv => whnf); fail_if_success (show forceL _ _))
    | refine Res.mk ?_)
  rfl
theorem tz_of_ht {m e : Int} {h : Nat} (hq : Ht h (dof m e)) (he : -(100000 - h : Int) ≤ e) : m ≠ 0 → tzn m.natAbs ≤ 100000 := by
  intro h0
  have h1 := (dof_parts e h0).2.2
  have h2 := hq.parts.2.2
  omega
theorem rdadd_sim {p q : Dyadic} (hp : Ht 49000 p) (hq : Ht 49000 q) : Sim Tryz.prog G0 false 64 [dyD p, dyD q] (dyD (p + q)) := by
  obtain ⟨hp1, hp2, hp3⟩ := hp.parts
  obtain ⟨hq1, hq2, hq3⟩ := hq.parts
  have u1 : Zt 200000 (dman p * 2 ^ (dexp p - min (dexp p) (dexp q)).toNat) := hp1.shl (by omega)
  have u2 : Zt 200000 (dman q * 2 ^ (dexp q - min (dexp p) (dexp q)).toNat) := hq1.shl (by omega)
  have u3 := u1.add u2 (c := 200001) (by decide)
  have u4 : Ht 49001 (p + q) := hp.add hq (by decide)
  rw [← dof_sum] at u4
  refine sim_mk tab_ok Tryz.func64 rfl (by kernel_rfl) rfl ⟨Nat.le_of_ble_eq_true rfl, Nat.le_of_ble_eq_true rfl⟩ ?_
  repeat' ((conv => whnf); first
    | with_reducible refine CallX.data ?_
    | refine CallE.mk _ _ (rsign_sim (.of (n := dman p) (hp1.mono (by decide)))) ?_
    | refine CallE.mk _ _ (rsign_sim (.of (n := dman q) (hq1.mono (by decide)))) ?_
    | refine CallE.mk _ _ (rshlint_sim _ (.of (n := dman p) (hp1.mono (by decide))) (hp1.mono (by decide)) (by omega)) ?_
    | refine CallE.mk _ _ (rshlint_sim _ (.of (n := dman q) (hq1.mono (by decide))) (hq1.mono (by decide)) (by omega)) ?_
    | refine CallE.mk _ _ (raddint_sim (.of (u1.mono (by decide))) (.of (u2.mono (by decide))) (u1.mono (by decide)) (u2.mono (by decide))) ?_
    | refine CallE.mk _ _ (rexact_sim (.of (u3.mono (by decide))) (u3.mono (by decide)) (tz_of_ht u4 (by omega)) (by omega) (by omega)) ?_
    | refine RegE.early (Cd.mk (show regOk _ _ _ _ = true by kernel_rfl) ?_)
    | refine Cd.mk rfl ?_
    | with_reducible refine Br.dec (fun _ => ?_) (fun _ => ?_)
    | refine NthE.mk _ rfl ?_
    | (refine TkE.fL ?_; (conv => whnf); fail_if_success (show forceL _ _))
    | refine Res.mk ?_
    | ((with_reducible refine EqE.idW ?_); refine EqE.mk _ (wrap_in (by omega) (by omega)) ?_)
    | ((with_reducible refine EqE.idI ?_); refine EqE.mk _ (min_eq _ _) ?_)
    | ((with_reducible refine EqE.idS ?_); (refine EqE.fP ?_; (conv => whnf); fail_if_success (show forceL _ _)))
    | refine Cd.mk (Nat.le_of_ble_eq_true rfl) ?_)
  · rename_i h
    have h : p = 0 := dsg_eq.1 h
    show dyD _ = dyD q
    rw [h, Dyadic.zero_add]
  · rename_i h0 h
    have h : q = 0 := dsg_eq.1 h
    show dyD _ = dyD p
    rw [h, Dyadic.add_zero]
  · exact congrArg dyD (dof_sum p q).symm
theorem rdneg_sim {p : Dyadic} (hp : Ht 50000 p) : Sim Tryz.prog G0 false 65 [dyD p] (dyD (-p)) := by
  refine sim_mk tab_ok Tryz.func65 rfl (by kernel_rfl) rfl ⟨Nat.le_of_ble_eq_true rfl, Nat.le_of_ble_eq_true rfl⟩ ?_
  repeat' ((conv => whnf); first
    | refine CallE.mk _ _ (rneg_sim (.of (n := dman p) (hp.parts.1.mono (by decide)))) ?_
    | refine RegE.early (Cd.mk (show regOk _ _ _ _ = true by kernel_rfl) ?_)
    | refine Cd.mk rfl ?_
    | refine NthE.mk _ rfl ?_
    | (refine TkE.fL ?_; (conv => whnf); fail_if_success (show forceL _ _))
    | refine Res.mk ?_
    | ((with_reducible refine EqE.idS ?_); (refine EqE.fP ?_; (conv => whnf); fail_if_success (show forceL _ _)))
    | refine Cd.mk (Nat.le_of_ble_eq_true rfl) ?_)
  show dyD _ = D.agg [.bool (zneg (-dman p)), sl (ofN (-dman p).natAbs), .int .i64 (dexp p)]
  unfold dyD
  rw [dman_neg', dexp_neg]
theorem rdsub_sim {p q : Dyadic} (hp : Ht 49000 p) (hq : Ht 49000 q) : Sim Tryz.prog G0 false 72 [dyD p, dyD q] (dyD (p - q)) := by
  refine sim_mk tab_ok Tryz.func72 rfl (by kernel_rfl) rfl ⟨Nat.le_of_ble_eq_true rfl, Nat.le_of_ble_eq_true rfl⟩ ?_
  repeat' ((conv => whnf); first
    | refine CallE.mk _ _ (rdneg_sim (hq.mono (by decide))) ?_
    | refine CallE.mk _ _ (rdadd_sim hp hq.neg) ?_
    | refine RegE.early (Cd.mk (show regOk _ _ _ _ = true by kernel_rfl) ?_)
    | refine Cd.mk rfl ?_
    | (refine TkE.fL ?_; (conv => whnf); fail_if_success (show forceL _ _))
    | refine Res.mk ?_
    | ((with_reducible refine EqE.idS ?_); (refine EqE.fP ?_; (conv => whnf); fail_if_success (show forceL _ _)))
    | refine Cd.mk (Nat.le_of_ble_eq_true rfl) ?_)
  rfl
theorem rdmul_sim {p q : Dyadic} (hp : Ht 25000 p) (hq : Ht 25000 q) : Sim Tryz.prog G0 false 63 [dyD p, dyD q] (dyD (p * q)) := by
  have hz := hp.parts.1.mul hq.parts.1 (c := 300000) (by decide)
  have h1 := hp.parts.2
  have h2 := hq.parts.2
  have u4 : Ht 50000 (dof (dman p * dman q) (dexp p + dexp q)) := by
    rw [← dof_mul, dof_self, dof_self]; exact hp.mul hq (by decide)
  refine sim_mk tab_ok Tryz.func63 rfl (by kernel_rfl) rfl ⟨Nat.le_of_ble_eq_true rfl, Nat.le_of_ble_eq_true rfl⟩ ?_
  repeat' ((conv => whnf); first
    | refine CallE.mk _ _ (rmulint_sim (.of (n := dman p) (hp.parts.1.mono (by decide))) (.of (n := dman q) (hq.parts.1.mono (by decide))) (hp.parts.1.mono (by decide)) (hq.parts.1.mono (by decide))) ?_
    | refine CallE.mk _ _ (rexact_sim (.of (hz.mono (by decide))) hz (tz_of_ht u4 (by omega)) (by omega) (by omega)) ?_
    | refine RegE.early (Cd.mk (show regOk _ _ _ _ = true by kernel_rfl) ?_)
    | refine Cd.mk rfl ?_
    | refine NthE.mk _ rfl ?_
    | (refine TkE.fL ?_; (conv => whnf); fail_if_success (show forceL _ _))
    | refine Res.mk ?_
    | ((with_reducible refine EqE.idW ?_); refine EqE.mk _ (wrap_in (by omega) (by omega)) ?_)
    | ((with_reducible refine EqE.idS ?_); (refine EqE.fP ?_; (conv => whnf); fail_if_success (show forceL _ _)))
    | refine Cd.mk (Nat.le_of_ble_eq_true rfl) ?_)
  show dyD _ = dyD (dof (dman p * dman q) (dexp p + dexp q))
  rw [← dof_mul, dof_self, dof_self]
theorem rdcmp_sim {p q : Dyadic} (hp : Ht 49000 p) (hq : Ht 49000 q) (hpq : Ht 50000 (p - q)) : Sim Tryz.prog G0 true 33 [dyD p, dyD q] (.int .i64 (dsg (p - q))) := by
  refine sim_mk tab_ok Tryz.func33 rfl (by kernel_rfl) rfl ⟨Nat.le_of_ble_eq_true rfl, Nat.le_of_ble_eq_true rfl⟩ ?_
  repeat' ((conv => whnf); first
    | with_reducible refine CallX.data ?_
    | refine CallE.mk _ _ (rdsub_sim hp hq) ?_
    | refine CallE.mk _ _ (rdsign_sim hpq) ?_
    | refine RegE.early (Cd.mk (show regOk _ _ _ _ = true by kernel_rfl) ?_)
    | refine Cd.mk rfl ?_
    | (refine TkE.fL ?_; (conv => whnf); fail_if_success (show forceL _ _))
    | refine Res.mk ?_)
  rfl
theorem rdabs_sim {p : Dyadic} (hp : Ht 50000 p) : Sim Tryz.prog G0 false 144 [dyD p] (dyD (dabs p)) := by
  refine sim_mk tab_ok Tryz.func144 rfl (by kernel_rfl) rfl ⟨Nat.le_of_ble_eq_true rfl, Nat.le_of_ble_eq_true rfl⟩ ?_
  repeat' ((conv => whnf); first
    | refine RegE.early (Cd.mk (show regOk _ _ _ _ = true by kernel_rfl) ?_)
    | refine Cd.mk rfl ?_
    | refine NthE.mk _ rfl ?_
    | (refine TkE.fL ?_; (conv => whnf); fail_if_success (show forceL _ _))
    | refine Res.mk ?_
    | ((with_reducible refine EqE.idS ?_); (refine EqE.fP ?_; (conv => whnf); fail_if_success (show forceL _ _)))
    | refine Cd.mk (Nat.le_of_ble_eq_true rfl) ?_)
  show dyD _ = D.agg [.bool false, sl (ofN (dman p).natAbs), .int .i64 (dexp p)]
  unfold dyD
  rw [dman_abs, dexp_abs, show zneg (((dman p).natAbs : Nat) : Int) = false from decide_eq_false (by omega), Int.natAbs_natCast]
end Go.Ev.Ar
