/- Contracts of the given functions, on data. Conditions stand in each theorem. -/
import Derived.Test.YtagjickjfjgfpaaGreatDoorGAvNatC
import Derived.Test.YtagjickjfjgfpaaGreatDoorGAvNatF
import Derived.Test.YtagjickjfjgfpaaGreatDoorGEvZ
set_option linter.unusedSimpArgs false
set_option linter.unusedVariables false
namespace Go.Ev.Ar
open Go Go.Ev Go.Proofs

theorem len_pos (n : Nat) : ((ofN n).length : Int) > 0 ↔ 0 < n := by
  have := ofN_len_zero (n := n); omega
theorem with_sim (b : Bool) (l : List UInt32) (hl : l.length < 2^32) : Sim Tryz.prog G0 false 203 [.bool b, sl l] (zD (zv b l)) := by
  refine sim_mk tab_ok Tryz.func203 rfl (by kernel_rfl) rfl ⟨Nat.le_of_ble_eq_true rfl, Nat.le_of_ble_eq_true rfl⟩ ?_
  repeat' ((conv => whnf); first
    | with_reducible refine CallX.data ?_
    | refine CallE.mk _ _ (trim_sim _ (by omega)) ?_
    | refine RegE.early (Cd.mk (show regOk _ _ _ _ = true by kernel_rfl) ?_)
    | refine Cd.mk rfl ?_
    | refine Br.t ?_
    | refine Br.f ?_
    | refine Br.mk (fun _ => ?_) (fun _ => ?_)
    | (refine TkE.fL ?_; (conv => whnf); fail_if_success (show forceL _ _))
    | refine Res.mk ?_
    | ((with_reducible refine EqE.idS ?_); (refine EqE.fP ?_; (conv => whnf); fail_if_success (show forceL _ _)))
    | refine Cd.mk (Nat.le_of_ble_eq_true rfl) ?_)
  all_goals
    show zD _ = D.agg [D.bool _, sl (ofN (nv l))]
    refine (zD_mk ?_).symm
    simp only [len_pos, *, Bool.true_and, Bool.false_and]
/-- with, of what is so said. -/
theorem with_sim' {b : Bool} {l : List UInt32} {n : Int} (hl : l.length < 2^32) (h : zv b l = n) : Sim Tryz.prog G0 false 203 [.bool b, sl l] (zD n) := h ▸ with_sim b l hl

theorem znorm_sim {x : D} {n : Int} (hx : ZR x n) : Sim Tryz.prog G0 false 200 [x] (zD n) := by
  obtain ⟨b, l, hl⟩ := hx
  refine sim_mk tab_ok Tryz.func200 rfl (by kernel_rfl) rfl ⟨Nat.le_of_ble_eq_true rfl, Nat.le_of_ble_eq_true rfl⟩ ?_
  repeat' ((conv => whnf); first
    | with_reducible refine CallX.data ?_
    | refine CallE.mk _ _ (with_sim _ _ (by omega)) ?_
    | refine RegE.early (Cd.mk (show regOk _ _ _ _ = true by kernel_rfl) ?_)
    | refine Cd.mk rfl ?_
    | refine NthE.mk _ rfl ?_
    | (refine TkE.fL ?_; (conv => whnf); fail_if_success (show forceL _ _))
    | refine Res.mk ?_
    | ((with_reducible refine EqE.idS ?_); (refine EqE.fP ?_; (conv => whnf); fail_if_success (show forceL _ _)))
    | refine Cd.mk (Nat.le_of_ble_eq_true rfl) ?_)
  rfl
theorem zneg_sim {x : D} {n : Int} (hx : ZR x n) : Sim Tryz.prog G0 false 187 [x] (zD (-n)) := by
  obtain ⟨b, l, hl⟩ := hx
  refine sim_mk tab_ok Tryz.func187 rfl (by kernel_rfl) rfl ⟨Nat.le_of_ble_eq_true rfl, Nat.le_of_ble_eq_true rfl⟩ ?_
  repeat' ((conv => whnf); first
    | with_reducible refine CallX.data ?_
    | refine CallE.mk _ _ (with_sim' (n := -zv b l) (by omega) (by cases b <;> simp [zv])) ?_
    | refine RegE.early (Cd.mk (show regOk _ _ _ _ = true by kernel_rfl) ?_)
    | refine Cd.mk rfl ?_
    | refine NthE.mk _ rfl ?_
    | (refine TkE.fL ?_; (conv => whnf); fail_if_success (show forceL _ _))
    | refine Res.mk ?_
    | ((with_reducible refine EqE.idS ?_); (refine EqE.fP ?_; (conv => whnf); fail_if_success (show forceL _ _)))
    | refine Cd.mk (Nat.le_of_ble_eq_true rfl) ?_)
  rfl
theorem zis_sim {b : Bool} {l : List UInt32} (hl : l.length < 2^32) : Sim Tryz.prog G0 true 197 [.agg [.bool b, sl l]] (.bool (cutOk l && (decide (0 < l.length) || !b))) := by
  refine sim_mk tab_ok Tryz.func197 rfl (by kernel_rfl) rfl ⟨Nat.le_of_ble_eq_true rfl, Nat.le_of_ble_eq_true rfl⟩ ?_
  repeat' ((conv => whnf); first
    | with_reducible refine CallX.data ?_
    | refine CallE.mk _ _ (is_sim _ (by omega)) ?_
    | refine RegE.early (Cd.mk (show regOk _ _ _ _ = true by kernel_rfl) ?_)
    | refine Cd.mk rfl ?_
    | refine Br.t ?_
    | refine Br.f ?_
    | with_reducible refine Br.dec (fun _ => ?_) (fun _ => ?_)
    | refine Br.mk (fun _ => ?_) (fun _ => ?_)
    | refine NthE.mk _ rfl ?_
    | refine Res.mk ?_)
  · rename_i h1 h2
    show D.bool _ = D.bool _
    rw [h1, show decide (0 < l.length) = true from decide_eq_true (by omega)]; rfl
  · rename_i h1 h2
    show D.bool _ = D.bool _
    rw [h1, show decide (0 < l.length) = false from decide_eq_false (by omega)]; rfl
  · rename_i h1
    show D.bool _ = D.bool _
    rw [h1]; rfl
theorem zsign_sim {x : D} {n : Int} (hx : ZR x n) : Sim Tryz.prog G0 true 207 [x] (.int .i64 (Int.sign n)) := by
  obtain ⟨b, l, hl⟩ := hx
  refine sim_mk tab_ok Tryz.func207 rfl (by kernel_rfl) rfl ⟨Nat.le_of_ble_eq_true rfl, Nat.le_of_ble_eq_true rfl⟩ ?_
  have hmin : ∀ k : Nat, k ≠ 0 → (if false = true then (if (1 : Int) > ((ofN k).length : Int) then (1 : Int) else ((ofN k).length : Int)) else (if (1 : Int) < ((ofN k).length : Int) then (1 : Int) else ((ofN k).length : Int))) = 1 := by
    intro k hk
    have h := ofN_len_zero (n := k)
    simp only [Bool.false_eq_true, if_false]; split <;> omega
  rcases Int.lt_trichotomy (zv b l) 0 with h | h | h
  · have h1 : zneg (zv b l) = true := decide_eq_true h
    rw [Int.sign_eq_neg_one_of_neg h]
    repeat' ((conv => whnf); first
      | with_reducible refine CallX.data ?_
      | refine CallE.mk _ _ (znorm_sim (.mk _ _ hl)) ?_
      | refine RegE.early (Cd.mk (show regOk _ _ _ _ = true by kernel_rfl) ?_)
      | refine Cd.mk rfl ?_
      | refine Br.mk (fun _ => ?_) (fun _ => ?_)
      | refine NthE.mk _ rfl ?_
      | (refine TkE.fL ?_; (conv => whnf); fail_if_success (show forceL _ _))
      | refine Res.mk ?_
      | ((with_reducible refine EqE.idW ?_); refine EqE.mk _ (wrap_in (by omega) (by omega)) ?_)
      | ((with_reducible refine EqE.idI ?_); refine EqE.mk 1 (hmin _ (by omega)) ?_)
      | ((with_reducible refine EqE.idS ?_); (refine EqE.fP ?_; (conv => whnf); fail_if_success (show forceL _ _)))
      | refine Cd.mk (Nat.le_of_ble_eq_true rfl) ?_
      | refine Cd.mk (by first | omega | (simp only [length_limbs, length_la]; omega)) ?_)
    · rfl
    · rename_i h2; exact absurd (h1.symm.trans h2) (by decide)
  · have h1 : zneg (zv b l) = false := decide_eq_false (by omega)
    have h3 : ((ofN (zv b l).natAbs).length : Int) = 0 := by rw [h, show Int.natAbs 0 = 0 from rfl, ofN_zero]; rfl
    rw [show Int.sign (zv b l) = 0 by rw [h]; rfl]
    repeat' ((conv => whnf); first
      | with_reducible refine CallX.data ?_
      | refine CallE.mk _ _ (znorm_sim (.mk _ _ hl)) ?_
      | refine RegE.early (Cd.mk (show regOk _ _ _ _ = true by kernel_rfl) ?_)
      | refine Cd.mk rfl ?_
      | refine Br.mk (fun _ => ?_) (fun _ => ?_)
      | refine NthE.mk _ rfl ?_
      | (refine TkE.fL ?_; (conv => whnf); fail_if_success (show forceL _ _))
      | refine Res.mk ?_
      | ((with_reducible refine EqE.idW ?_); with_reducible refine EqE.mk _ (n_succ _ (by omega)) ?_)
      | ((with_reducible refine EqE.idI ?_); refine EqE.mk 0 (by rw [h3]; rfl) ?_)
      | ((with_reducible refine EqE.idS ?_); (refine EqE.fP ?_; (conv => whnf); fail_if_success (show forceL _ _)))
      | refine Cd.mk (Nat.le_of_ble_eq_true rfl) ?_
      | refine Cd.mk (by first | omega | (simp only [length_limbs, length_la]; omega)) ?_)
    · rename_i h2; exact absurd (h1.symm.trans h2) (by decide)
    · rfl
  · have h1 : zneg (zv b l) = false := decide_eq_false (by omega)
    rw [Int.sign_eq_one_of_pos h]
    repeat' ((conv => whnf); first
      | with_reducible refine CallX.data ?_
      | refine CallE.mk _ _ (znorm_sim (.mk _ _ hl)) ?_
      | refine RegE.early (Cd.mk (show regOk _ _ _ _ = true by kernel_rfl) ?_)
      | refine Cd.mk rfl ?_
      | refine Br.mk (fun _ => ?_) (fun _ => ?_)
      | refine NthE.mk _ rfl ?_
      | (refine TkE.fL ?_; (conv => whnf); fail_if_success (show forceL _ _))
      | refine Res.mk ?_
      | ((with_reducible refine EqE.idW ?_); refine EqE.mk _ (wrap_in (by omega) (by omega)) ?_)
      | ((with_reducible refine EqE.idI ?_); refine EqE.mk 1 (hmin _ (by omega)) ?_)
      | ((with_reducible refine EqE.idS ?_); (refine EqE.fP ?_; (conv => whnf); fail_if_success (show forceL _ _)))
      | refine Cd.mk (Nat.le_of_ble_eq_true rfl) ?_
      | refine Cd.mk (by first | omega | (simp only [length_limbs, length_la]; omega)) ?_)
    · rename_i h2; exact absurd (h1.symm.trans h2) (by decide)
    · rfl
theorem zadd_sim {x y : D} {m n : Int} (hx : ZR x m) (hy : ZR y n) : Sim Tryz.prog G0 false 185 [x, y] (zD (m + n)) := by
  obtain ⟨b, l, hl⟩ := hx
  obtain ⟨c, k, hk⟩ := hy
  refine sim_mk tab_ok Tryz.func185 rfl (by kernel_rfl) rfl ⟨Nat.le_of_ble_eq_true rfl, Nat.le_of_ble_eq_true rfl⟩ ?_
  have e1 := ofN_len_le.2 (show nv l + nv k < Pw 4194305 by have h1 := nv_lt l; have h2 := nv_lt k; have h3 := Pw_mono hl; have h4 := Pw_mono hk; rw [Pw_succ]; omega)
  have e2 := ofN_len_le.2 (show nv l - nv k < Pw 4194304 by have h1 := nv_lt l; have h3 := Pw_mono hl; omega)
  have e3 := ofN_len_le.2 (show nv k - nv l < Pw 4194304 by have h1 := nv_lt k; have h3 := Pw_mono hk; omega)
  repeat' ((conv => whnf); first
    | with_reducible refine CallX.data ?_
    | refine CallE.mk _ _ (add_sim _ _ (by omega) (by omega)) ?_
    | refine CallE.mk _ _ (sub_sim _ _ (by omega) (by omega)) ?_
    | refine CallE.mk _ _ (with_sim _ _ (by omega)) ?_
    | refine RegE.early (Cd.mk (show regOk _ _ _ _ = true by kernel_rfl) ?_)
    | refine Cd.mk rfl ?_
    | with_reducible refine Br.dec (fun _ => ?_) (fun _ => ?_)
    | refine Br.mk (fun _ => ?_) (fun _ => ?_)
    | refine NthE.mk _ rfl ?_
    | (refine TkE.fL ?_; (conv => whnf); fail_if_success (show forceL _ _))
    | refine Res.mk ?_
    | ((with_reducible refine EqE.idS ?_); (refine EqE.fP ?_; (conv => whnf); fail_if_success (show forceL _ _)))
    | refine Cd.mk (Nat.le_of_ble_eq_true rfl) ?_)
  · rename_i h
    obtain rfl := eq_of_beq h
    show zD _ = zD (zv b (ofN (nv l + nv k)))
    congr 1; unfold zv; rw [nv_ofN]; split <;> omega
  · rename_i h h2
    show zD _ = zD (zv b (ofN (nv l - nv k)))
    have h := ne_of_beq_false h
    congr 1; unfold zv; rw [nv_ofN]; cases b <;> cases c <;> simp at h ⊢ <;> omega
  · rename_i h h2
    show zD _ = zD (zv c (ofN (nv k - nv l)))
    have h := ne_of_beq_false h
    congr 1; unfold zv; rw [nv_ofN]; cases b <;> cases c <;> simp at h ⊢ <;> omega
theorem zmul_sim {x y : D} {m n : Int} (hx : ZR x m) (hy : ZR y n) : Sim Tryz.prog G0 false 189 [x, y] (zD (m * n)) := by
  obtain ⟨b, l, hl⟩ := hx
  obtain ⟨c, k, hk⟩ := hy
  refine sim_mk tab_ok Tryz.func189 rfl (by kernel_rfl) rfl ⟨Nat.le_of_ble_eq_true rfl, Nat.le_of_ble_eq_true rfl⟩ ?_
  have e1 := ofN_len_le.2 (show nv l * nv k < Pw 8388608 by
    have h1 := nv_lt l; have h2 := nv_lt k; have h3 := Pw_mono hl; have h4 := Pw_mono hk
    rw [show 8388608 = 4194304 + 4194304 from rfl, Pw_add]
    exact Nat.mul_lt_mul'' (by omega) (by omega))
  repeat' ((conv => whnf); first
    | refine CallE.mk _ _ (mul_sim _ _ (by omega) (by omega)) ?_
    | refine CallE.mk _ _ (with_sim _ _ (by omega)) ?_
    | refine RegE.early (Cd.mk (show regOk _ _ _ _ = true by kernel_rfl) ?_)
    | refine Cd.mk rfl ?_
    | refine NthE.mk _ rfl ?_
    | (refine TkE.fL ?_; (conv => whnf); fail_if_success (show forceL _ _))
    | refine Res.mk ?_
    | ((with_reducible refine EqE.idS ?_); (refine EqE.fP ?_; (conv => whnf); fail_if_success (show forceL _ _)))
    | refine Cd.mk (Nat.le_of_ble_eq_true rfl) ?_)
  show zD _ = zD (zv (!(b == c)) (ofN (nv l * nv k)))
  congr 1; unfold zv; rw [nv_ofN, Int.natCast_mul]; cases b <;> cases c <;> simp [Int.neg_mul, Int.mul_neg]
theorem zsub_sim {x y : D} {m n : Int} (hx : ZR x m) (hy : ZR y n) : Sim Tryz.prog G0 false 210 [x, y] (zD (m - n)) := by
  obtain ⟨b, l, hl⟩ := hx
  obtain ⟨c, k, hk⟩ := hy
  have e : zv (!c) k = -zv c k := by cases c <;> simp [zv]
  refine sim_mk tab_ok Tryz.func210 rfl (by kernel_rfl) rfl ⟨Nat.le_of_ble_eq_true rfl, Nat.le_of_ble_eq_true rfl⟩ ?_
  repeat' ((conv => whnf); first
    | with_reducible refine CallX.data ?_
    | refine CallE.mk _ _ (zadd_sim (.mk _ _ hl) (.mk _ _ hk)) ?_
    | refine RegE.early (Cd.mk (show regOk _ _ _ _ = true by kernel_rfl) ?_)
    | refine Cd.mk rfl ?_
    | refine NthE.mk _ rfl ?_
    | (refine TkE.fL ?_; (conv => whnf); fail_if_success (show forceL _ _))
    | refine Res.mk ?_
    | ((with_reducible refine EqE.idS ?_); (refine EqE.fP ?_; (conv => whnf); fail_if_success (show forceL _ _)))
    | refine Cd.mk (Nat.le_of_ble_eq_true rfl) ?_)
  show zD _ = zD (zv b l + zv (!c) k)
  rw [e]; rfl
theorem zcmp_sim {x y : D} {m n : Int} (hx : ZR x m) (hy : ZR y n) (h : Zt 134217728 (m - n)) : Sim Tryz.prog G0 true 230 [x, y] (.int .i64 (Int.sign (m - n))) := by
  obtain ⟨b, l, hl⟩ := hx
  obtain ⟨c, k, hk⟩ := hy
  refine sim_mk tab_ok Tryz.func230 rfl (by kernel_rfl) rfl ⟨Nat.le_of_ble_eq_true rfl, Nat.le_of_ble_eq_true rfl⟩ ?_
  repeat' ((conv => whnf); first
    | with_reducible refine CallX.data ?_
    | refine CallE.mk _ _ (zsub_sim (.mk _ _ hl) (.mk _ _ hk)) ?_
    | refine CallE.mk _ _ (zsign_sim (.of h)) ?_
    | refine RegE.early (Cd.mk (show regOk _ _ _ _ = true by kernel_rfl) ?_)
    | refine Cd.mk rfl ?_
    | (refine TkE.fL ?_; (conv => whnf); fail_if_success (show forceL _ _))
    | refine Res.mk ?_)
  rfl
theorem limbs2 (x y : Nat) : [A.d (D.int .u32 ((x % 4294967296 : Nat) : Int)), A.d (D.int .u32 ((y % 4294967296 : Nat) : Int))] = (limbs [UInt32.ofNat x, UInt32.ofNat y]).map A.d := by
  simp [limbs]
theorem nv2 {x : Nat} (h : x < 18446744073709551616) : nv [UInt32.ofNat x, UInt32.ofNat (x / 4294967296)] = x := by
  simp only [nv_cons, nv_nil, UInt32.toNat_ofNat']; omega
/-- an int64's limbs -/
theorem zof_sim (n : Int) (h1 : -9223372036854775808 ≤ n) (h2 : n ≤ 9223372036854775807) : Sim Tryz.prog G0 false 178 [.int .i64 n] (zD n) := by
  refine sim_mk tab_ok Tryz.func178 rfl (by kernel_rfl) rfl ⟨Nat.le_of_ble_eq_true rfl, Nat.le_of_ble_eq_true rfl⟩ ?_
  rcases Int.lt_or_le n 0 with h | h
  · have w1 : IntKind.u64.wrap n = ((18446744073709551616 - n.natAbs : Nat) : Int) := by
      have e : IntKind.u64.wrap n = if (false && decide (n % 2 ^ 64 ≥ 2 ^ 63)) = true then n % 2 ^ 64 - 2 ^ 64 else n % 2 ^ 64 := rfl
      rw [e, if_neg (by simp)]; omega
    have w2 : IntKind.u64.wrap (0 - ((18446744073709551616 - n.natAbs : Nat) : Int)) = ((n.natAbs : Nat) : Int) := by
      generalize hx : (0 - ((18446744073709551616 - n.natAbs : Nat) : Int)) = x
      have e : IntKind.u64.wrap x = if (false && decide (x % 2 ^ 64 ≥ 2 ^ 63)) = true then x % 2 ^ 64 - 2 ^ 64 else x % 2 ^ 64 := rfl
      rw [e, if_neg (by simp)]; omega
    repeat' ((conv => whnf); first
      | with_reducible refine CallX.data ?_
      | refine CallE.mk _ _ (with_sim _ _ (by simp)) ?_
      | refine DsE.mk (limbs [UInt32.ofNat n.natAbs, UInt32.ofNat (n.natAbs / 4294967296)]) (limbs2 _ _) ?_
      | refine RegE.early (Cd.mk (show regOk _ _ _ _ = true by kernel_rfl) ?_)
      | refine Cd.mk rfl ?_
      | with_reducible refine Br.dec (fun _ => ?_) (fun _ => ?_)
      | (refine TkE.fL ?_; (conv => whnf); fail_if_success (show forceL _ _))
      | refine Res.mk ?_
      | ((with_reducible refine EqE.idW ?_); first | refine EqE.mk _ w1 ?_ | refine EqE.mk _ w2 ?_ | with_reducible refine EqE.mk _ (n_u32 _) ?_)
      | ((with_reducible refine EqE.idF ?_); first | with_reducible refine EqE.mk _ (n_shrv _ _ (by omega)) ?_ | refine EqE.mk _ (n_shr _ 4294967296 _ _ rfl) ?_)
      | ((with_reducible refine EqE.idS ?_); (refine EqE.fP ?_; (conv => whnf); fail_if_success (show forceL _ _)))
      | ((with_reducible refine EqE.idL ?_); refine EqE.mk (sl [UInt32.ofNat n.natAbs, UInt32.ofNat (n.natAbs / 4294967296)]) rfl ?_)
      | refine Cd.mk (Nat.le_of_ble_eq_true rfl) ?_
      | refine Cd.mk (by first | omega | (dsimp only; omega) | (simp only [length_limbs, length_la, Nat.mul_one, List.length_set, List.length_take, List.length_drop, List.length_replicate, List.length_append, Int.toNat_natCast]; omega) | (rw [length_la, Nat.mul_one]) | (rw [length_limbs, Nat.mul_one]) | (refine ⟨⟨Int.le_refl _, ?_⟩, ?_⟩ <;> first | omega | (rw [Int.toNat_zero]; omega)) | (simp only [length_limbs, length_la, Nat.mul_one, List.length_set, List.length_take, List.length_drop, List.length_replicate]; exact Nat.le_refl _)) ?_)
    · show zD _ = zD (zv (decide (n < 0)) _)
      rw [decide_eq_true h, zv_true, nv2 (by omega)]; congr 1; omega
    · omega
  · have w1 : IntKind.u64.wrap n = ((n.natAbs : Nat) : Int) := by rw [wrap_u64 h (by omega)]; omega
    repeat' ((conv => whnf); first
      | with_reducible refine CallX.data ?_
      | refine CallE.mk _ _ (with_sim _ _ (by simp)) ?_
      | refine DsE.mk (limbs [UInt32.ofNat n.natAbs, UInt32.ofNat (n.natAbs / 4294967296)]) (limbs2 _ _) ?_
      | refine RegE.early (Cd.mk (show regOk _ _ _ _ = true by kernel_rfl) ?_)
      | refine Cd.mk rfl ?_
      | with_reducible refine Br.dec (fun _ => ?_) (fun _ => ?_)
      | (refine TkE.fL ?_; (conv => whnf); fail_if_success (show forceL _ _))
      | refine Res.mk ?_
      | ((with_reducible refine EqE.idW ?_); first | refine EqE.mk _ w1 ?_ | with_reducible refine EqE.mk _ (n_sub _ _ (by omega) (by omega)) ?_ | with_reducible refine EqE.mk _ (n_u32 _) ?_)
      | ((with_reducible refine EqE.idF ?_); first | with_reducible refine EqE.mk _ (n_shrv _ _ (by omega)) ?_ | refine EqE.mk _ (n_shr _ 4294967296 _ _ rfl) ?_)
      | ((with_reducible refine EqE.idS ?_); (refine EqE.fP ?_; (conv => whnf); fail_if_success (show forceL _ _)))
      | ((with_reducible refine EqE.idL ?_); refine EqE.mk (sl [UInt32.ofNat n.natAbs, UInt32.ofNat (n.natAbs / 4294967296)]) rfl ?_)
      | refine Cd.mk (Nat.le_of_ble_eq_true rfl) ?_
      | refine Cd.mk (by first | omega | (dsimp only; omega) | (simp only [length_limbs, length_la, Nat.mul_one, List.length_set, List.length_take, List.length_drop, List.length_replicate, List.length_append, Int.toNat_natCast]; omega) | (rw [length_la, Nat.mul_one]) | (rw [length_limbs, Nat.mul_one]) | (refine ⟨⟨Int.le_refl _, ?_⟩, ?_⟩ <;> first | omega | (rw [Int.toNat_zero]; omega)) | (simp only [length_limbs, length_la, Nat.mul_one, List.length_set, List.length_take, List.length_drop, List.length_replicate]; exact Nat.le_refl _)) ?_)
    · omega
    · show zD _ = zD (zv (decide (n < 0)) _)
      rw [decide_eq_false (by omega), zv_false, nv2 (by omega)]; congr 1; omega
theorem len_lt {x k : Nat} (h : x < 2 ^ (32 * k)) : (ofN x).length ≤ k := ofN_len_le.2 (by rw [Pw_two]; exact h)
theorem len_shl {l : List UInt32} {n : Int} {k j : Nat} (hl : l.length ≤ k) (hn : n ≤ 32 * j) : (ofN (nv l * 2 ^ n.toNat)).length ≤ k + j := by
  refine len_lt ?_
  have h1 := nv_lt l
  rw [Pw_two] at h1
  rw [Nat.mul_add, Nat.pow_add]
  exact Nat.mul_lt_mul_of_lt_of_le (Nat.lt_of_lt_of_le h1 (Nat.pow_le_pow_right (by decide) (by omega))) (Nat.pow_le_pow_right (by decide) (by omega)) (Nat.pow_pos (by decide))
theorem zv_mul (b : Bool) (l : List UInt32) (k : Nat) : zv b (ofN (nv l * 2 ^ k)) = zv b l * 2 ^ k := by
  unfold zv; rw [nv_ofN, Int.natCast_mul, Int.natCast_pow]; cases b
  · rfl
  · simp only [if_true, Int.neg_mul]; rfl
theorem zup_sim {x : D} {m : Int} (n : Int) (hx : ZR x m) (hn : n ≤ 8388608) : Sim Tryz.prog G0 false 186 [x, .int .i64 n] (zD (m * 2 ^ n.toNat)) := by
  obtain ⟨b, l, hl⟩ := hx
  have hlen := len_shl (j := 262144) hl (show n ≤ 32 * (262144 : Nat) by omega)
  refine sim_mk tab_ok Tryz.func186 rfl (by kernel_rfl) rfl ⟨Nat.le_of_ble_eq_true rfl, Nat.le_of_ble_eq_true rfl⟩ ?_
  repeat' ((conv => whnf); first
    | refine CallE.mk _ _ (up_sim _ _ (by omega) (by omega)) ?_
    | refine CallE.mk _ _ (with_sim _ _ (by omega)) ?_
    | refine RegE.early (Cd.mk (show regOk _ _ _ _ = true by kernel_rfl) ?_)
    | refine Cd.mk rfl ?_
    | refine NthE.mk _ rfl ?_
    | (refine TkE.fL ?_; (conv => whnf); fail_if_success (show forceL _ _))
    | refine Res.mk ?_
    | ((with_reducible refine EqE.idS ?_); (refine EqE.fP ?_; (conv => whnf); fail_if_success (show forceL _ _)))
    | refine Cd.mk (Nat.le_of_ble_eq_true rfl) ?_)
  show zD _ = zD (zv b (ofN (nv l * 2 ^ n.toNat)))
  rw [zv_mul]
theorem neg_div (N k : Nat) : (-(N : Int)) / 2 ^ k = if N / 2 ^ k * 2 ^ k = N then -((N / 2 ^ k : Nat) : Int) else -((N / 2 ^ k : Nat) : Int) - 1 := by
  have hp : 0 < 2 ^ k := Nat.pow_pos (by decide)
  have e : (2 : Int) ^ k = ((2 ^ k : Nat) : Int) := by rw [Int.natCast_pow]; rfl
  rw [e]
  generalize 2 ^ k = p at hp
  have h1 := Nat.div_add_mod N p
  have h2 := Nat.mod_lt N hp
  have h1 : N = N / p * p + N % p := by rw [Nat.mul_comm]; exact h1.symm
  generalize N / p = q at *
  generalize N % p = r at *
  split
  · rename_i h
    rw [← h, Int.natCast_mul, ← Int.neg_mul, Int.mul_ediv_cancel _ (by omega)]
  · rename_i h
    have h3 : -(N : Int) = (p : Int) * (-(q : Int) - 1) + ((p : Int) - r) := by
      rw [h1, Int.natCast_add, Int.natCast_mul]; grind
    rw [h3, Int.mul_add_ediv_left _ _ (by omega), Int.ediv_eq_zero_of_lt (by omega) (by omega)]; omega
/-- the floor -/
theorem zdown_sim {x : D} {m : Int} (n : Int) (hx : ZR x m) (hn : n ≤ 8388608) : Sim Tryz.prog G0 false 209 [x, .int .i64 n] (zD (m / 2 ^ n.toNat)) := by
  obtain ⟨b, l, hl⟩ := hx
  have e1 : (ofN (nv l / 2 ^ n.toNat)).length ≤ 4194304 := Nat.le_trans (ofN_len_le.2 (Nat.lt_of_le_of_lt (Nat.div_le_self _ _) (nv_lt l))) hl
  have hz1 : Zt 134217728 (zv b (ofN (nv l / 2 ^ n.toNat))) := Zt.of_len e1 (by decide)
  have e2 : (ofN (zv b (ofN (nv l / 2 ^ n.toNat))).natAbs).length ≤ 4194304 := hz1.len (by decide)
  have e3 := len_shl (j := 262144) e2 (show n ≤ 32 * (262144 : Nat) by omega)
  have e4 : nv (ofN (nv (ofN (zv b (ofN (nv l / 2 ^ n.toNat))).natAbs) * 2 ^ n.toNat)) = nv l / 2 ^ n.toNat * 2 ^ n.toNat := by
    rw [nv_ofN, nv_ofN, zv_natAbs, nv_ofN]
  have h1 := neg_div (nv l) n.toNat
  refine sim_mk tab_ok Tryz.func209 rfl (by kernel_rfl) rfl ⟨Nat.le_of_ble_eq_true rfl, Nat.le_of_ble_eq_true rfl⟩ ?_
  repeat' ((conv => whnf); first
    | refine CallE.mk _ _ (down_sim _ _ (by omega) (by omega)) ?_
    | refine CallE.mk _ _ (with_sim _ _ (by omega)) ?_
    | refine CallE.mk _ _ (znorm_sim (.mk _ _ hl)) ?_
    | refine CallE.mk _ _ (up_sim _ _ (by omega) (by omega)) ?_
    | refine CallE.mk _ _ (cmp_sim _ _ (by omega) (by omega)) ?_
    | refine CallE.mk _ _ (zof_sim _ (by decide) (by decide)) ?_
    | refine CallE.mk _ _ (zsub_sim (.of hz1) (.of (n := 1) (.small (by decide) (by decide)))) ?_
    | refine RegE.early (Cd.mk (show regOk _ _ _ _ = true by kernel_rfl) ?_)
    | refine Cd.mk rfl ?_
    | refine Br.t ?_
    | refine Br.f ?_
    | with_reducible refine Br.ndec (fun _ => ?_) (fun _ => ?_)
    | refine Br.mk (fun _ => ?_) (fun _ => ?_)
    | refine NthE.mk _ rfl ?_
    | (refine TkE.fL ?_; (conv => whnf); fail_if_success (show forceL _ _))
    | refine Res.mk ?_
    | ((with_reducible refine EqE.idS ?_); (refine EqE.fP ?_; (conv => whnf); fail_if_success (show forceL _ _)))
    | refine Cd.mk (Nat.le_of_ble_eq_true rfl) ?_)
  · rename_i h h2
    rw [e4] at h2
    obtain rfl : b = true := by cases b <;> simp_all [zv_zneg]
    have h3 : ¬ (nv l / 2 ^ n.toNat * 2 ^ n.toNat = nv l) := fun e => h2 (cmpN_eq e)
    rw [if_neg h3] at h1
    show zD (-(nv l : Int) / _) = zD (zv true (ofN (nv l / 2 ^ n.toNat)) - 1)
    rw [h1, zv_true, nv_ofN]
  · rename_i h h2
    rw [e4] at h2
    obtain rfl : b = true := by cases b <;> simp_all [zv_zneg]
    have h3 : nv l / 2 ^ n.toNat * 2 ^ n.toNat = nv l := by
      rcases Nat.lt_trichotomy (nv l / 2 ^ n.toNat * 2 ^ n.toNat) (nv l) with h4 | h4 | h4
      · rw [cmpN_lt h4] at h2; cases h2
      · exact h4
      · rw [cmpN_gt h4] at h2; cases h2
    rw [if_pos h3] at h1
    show zD (-(nv l : Int) / _) = zD (zv true (ofN (nv l / 2 ^ n.toNat)))
    rw [h1, zv_true, nv_ofN]
  · rename_i h
    show zD _ = zD (zv b (ofN (nv l / 2 ^ n.toNat)))
    congr 1
    unfold zv
    cases b
    · simp [nv_ofN]
    · rw [zv_zneg] at h
      have h3 : nv l = 0 := by simpa using h
      simp [nv_ofN, h3]
end Go.Ev.Ar

namespace Go.Ev.Ar
open Go Go.Ev Go.Proofs

theorem dheld_sim (e : Int) : Sim Tryz.prog G0 true 177 [.int .i64 e] (.int .i64 (min (max e (-20000)) 20000)) := by
  refine sim_mk tab_ok Tryz.func177 rfl (by kernel_rfl) rfl ⟨Nat.le_of_ble_eq_true rfl, Nat.le_of_ble_eq_true rfl⟩ ?_
  repeat' ((conv => whnf); first
    | refine RegE.early (Cd.mk (show regOk _ _ _ _ = true by kernel_rfl) ?_)
    | refine Res.mk ?_
    | ((with_reducible refine EqE.idI ?_); first | refine EqE.mk _ (max_eq _ _) ?_ | refine EqE.mk _ (min_eq _ _) ?_))
  rfl
theorem dkept_sim (e : Int) (h1 : -2097152 ≤ e) (h2 : e ≤ 2097152) : Sim Tryz.prog G0 true 176 [.int .i64 e] (.int .i64 e) := by
  refine sim_mk tab_ok Tryz.func176 rfl (by kernel_rfl) rfl ⟨Nat.le_of_ble_eq_true rfl, Nat.le_of_ble_eq_true rfl⟩ ?_
  repeat' ((conv => whnf); first
    | refine RegE.early (Cd.mk (show regOk _ _ _ _ = true by kernel_rfl) ?_)
    | refine Res.mk ?_
    | ((with_reducible refine EqE.idI ?_); first | refine EqE.mk _ (max_eq _ _) ?_ | refine EqE.mk _ (min_eq _ _) ?_))
  show D.int _ _ = D.int _ _
  congr 1; omega
theorem draw_sim {x : D} {m e : Int} (hx : ZR x m) (hm : Zt 134217728 m) (h1 : -1099511627776 ≤ e) (h2 : e ≤ 1099511627776) : Sim Tryz.prog G0 false 175 [x, .int .i64 e] (dyD (dof m e)) := by
  obtain ⟨b, l, hl⟩ := hx
  have e1 := hm.len (k := 4194304) (by decide)
  refine sim_mk tab_ok Tryz.func175 rfl (by kernel_rfl) rfl ⟨Nat.le_of_ble_eq_true rfl, Nat.le_of_ble_eq_true rfl⟩ ?_
  have h4 := ofN_len_zero (n := (zv b l).natAbs)
  by_cases h0 : zv b l = 0
  · rw [h0, dof_zero, ← dyD_zero]
    repeat' ((conv => whnf); first
      | with_reducible refine CallX.data ?_
      | with_reducible refine Br.dec (fun _ => ?_) (fun h => absurd (by omega) h)
      | refine CallE.mk _ _ (znorm_sim (.mk _ _ hl)) ?_
      | refine RegE.early (Cd.mk (show regOk _ _ _ _ = true by kernel_rfl) ?_)
      | refine Cd.mk rfl ?_
      | refine NthE.mk _ rfl ?_
      | (refine TkE.fL ?_; (conv => whnf); fail_if_success (show forceL _ _))
      | refine Res.mk ?_
      | ((with_reducible refine EqE.idS ?_); (refine EqE.fP ?_; (conv => whnf); fail_if_success (show forceL _ _)))
      | refine Cd.mk (Nat.le_of_ble_eq_true rfl) ?_)
    rfl
  · have h3 : nv (ofN (zv b l).natAbs) ≠ 0 := by rw [nv_ofN]; omega
    have h5 : tzn (nv (ofN (zv b l).natAbs)) < 134217728 := by rw [nv_ofN]; exact hm.tz h0
    rw [← dyD_dof e h0]
    repeat' ((conv => whnf); first
      | with_reducible refine CallX.data ?_
      | with_reducible refine Br.dec (fun h => absurd h (by omega)) (fun _ => ?_)
      | refine CallE.mk _ _ (znorm_sim (.mk _ _ hl)) ?_
      | refine CallE.mk _ _ (low_sim _ (by omega) h3) ?_
      | refine CallE.mk _ _ (down_sim _ _ (by omega) (by omega)) ?_
      | refine RegE.early (Cd.mk (show regOk _ _ _ _ = true by kernel_rfl) ?_)
      | refine Cd.mk rfl ?_
      | refine NthE.mk _ rfl ?_
      | (refine TkE.fL ?_; (conv => whnf); fail_if_success (show forceL _ _))
      | refine Res.mk ?_
      | ((with_reducible refine EqE.idW ?_); refine EqE.mk _ (wrap_in (by omega) (by omega)) ?_)
      | ((with_reducible refine EqE.idS ?_); (refine EqE.fP ?_; (conv => whnf); fail_if_success (show forceL _ _)))
      | refine Cd.mk (Nat.le_of_ble_eq_true rfl) ?_)
    show D.agg [D.bool _, sl _, D.int _ _] = D.agg [D.bool _, sl (ofN (nv (ofN (zv b l).natAbs) / 2 ^ tzn (nv (ofN (zv b l).natAbs)))), D.int _ (e + tzn (nv (ofN (zv b l).natAbs)))]
    rw [nv_ofN]
theorem draw_sim' {x : D} {m e : Int} {q : Dyadic} (hx : ZR x m) (hm : Zt 134217728 m) (h1 : -1099511627776 ≤ e) (h2 : e ≤ 1099511627776) (h : dof m e = q) : Sim Tryz.prog G0 false 175 [x, .int .i64 e] (dyD q) := h ▸ draw_sim hx hm h1 h2
theorem zt_len {b : Bool} {l : List UInt32} (hl : l.length ≤ 65536) : Zt 2097152 (zv b l) := Zt.of_len hl (by decide)
theorem dof_sim {x : D} {q : Dyadic} (hx : DyR x q) : Sim Tryz.prog G0 false 174 [x] (dyD q) := by
  obtain ⟨b, l, e, hl, h1, h2, hq⟩ := hx
  refine sim_mk tab_ok Tryz.func174 rfl (by kernel_rfl) rfl ⟨Nat.le_of_ble_eq_true rfl, Nat.le_of_ble_eq_true rfl⟩ ?_
  repeat' ((conv => whnf); first
    | refine CallE.mk _ _ (dkept_sim _ (by omega) (by omega)) ?_
    | refine CallE.mk _ _ (draw_sim (.mk b l (by omega)) ((zt_len hl).mono (by decide)) (by omega) (by omega)) ?_
    | refine RegE.early (Cd.mk (show regOk _ _ _ _ = true by kernel_rfl) ?_)
    | refine Cd.mk rfl ?_
    | refine NthE.mk _ rfl ?_
    | (refine TkE.fL ?_; (conv => whnf); fail_if_success (show forceL _ _))
    | refine Res.mk ?_
    | ((with_reducible refine EqE.idS ?_); (refine EqE.fP ?_; (conv => whnf); fail_if_success (show forceL _ _)))
    | refine Cd.mk (Nat.le_of_ble_eq_true rfl) ?_)
  rfl
theorem dnorm_sim {x : D} {q : Dyadic} (hx : DyR x q) : Sim Tryz.prog G0 false 208 [x] (dyD q) := by
  obtain ⟨b, l, e, hl, h1, h2, hq⟩ := hx
  refine sim_mk tab_ok Tryz.func208 rfl (by kernel_rfl) rfl ⟨Nat.le_of_ble_eq_true rfl, Nat.le_of_ble_eq_true rfl⟩ ?_
  repeat' ((conv => whnf); first
    | with_reducible refine CallX.data ?_
    | refine CallE.mk _ _ (dof_sim (.mk b l e hl h1 h2 hq)) ?_
    | refine RegE.early (Cd.mk (show regOk _ _ _ _ = true by kernel_rfl) ?_)
    | refine Cd.mk rfl ?_
    | (refine TkE.fL ?_; (conv => whnf); fail_if_success (show forceL _ _))
    | refine Res.mk ?_
    | ((with_reducible refine EqE.idS ?_); (refine EqE.fP ?_; (conv => whnf); fail_if_success (show forceL _ _)))
    | refine Cd.mk (Nat.le_of_ble_eq_true rfl) ?_)
  rfl
theorem dmake_sim {x : D} {m : Int} (e : Int) (hx : ZR x m) (hm : Zt 134217728 m) : Sim Tryz.prog G0 false 172 [x, .int .i64 e] (dyD (dof m (min (max e (-20000)) 20000))) := by
  obtain ⟨b, l, hl⟩ := hx
  refine sim_mk tab_ok Tryz.func172 rfl (by kernel_rfl) rfl ⟨Nat.le_of_ble_eq_true rfl, Nat.le_of_ble_eq_true rfl⟩ ?_
  repeat' ((conv => whnf); first
    | refine CallE.mk _ _ (dheld_sim _) ?_
    | refine CallE.mk _ _ (draw_sim (.mk b l hl) hm (by omega) (by omega)) ?_
    | refine RegE.early (Cd.mk (show regOk _ _ _ _ = true by kernel_rfl) ?_)
    | refine Cd.mk rfl ?_
    | (refine TkE.fL ?_; (conv => whnf); fail_if_success (show forceL _ _))
    | refine Res.mk ?_
    | ((with_reducible refine EqE.idS ?_); (refine EqE.fP ?_; (conv => whnf); fail_if_success (show forceL _ _)))
    | refine Cd.mk (Nat.le_of_ble_eq_true rfl) ?_)
  rfl
theorem dsign_sim {x : D} {q : Dyadic} (hx : DyR x q) : Sim Tryz.prog G0 true 182 [x] (.int .i64 (dsg q)) := by
  obtain ⟨b, l, e, hl, h1, h2, hq⟩ := hx
  refine sim_mk tab_ok Tryz.func182 rfl (by kernel_rfl) rfl ⟨Nat.le_of_ble_eq_true rfl, Nat.le_of_ble_eq_true rfl⟩ ?_
  repeat' ((conv => whnf); first
    | with_reducible refine CallX.data ?_
    | refine CallE.mk _ _ (zsign_sim (.mk b l (by omega))) ?_
    | refine RegE.early (Cd.mk (show regOk _ _ _ _ = true by kernel_rfl) ?_)
    | refine Cd.mk rfl ?_
    | (refine TkE.fL ?_; (conv => whnf); fail_if_success (show forceL _ _))
    | refine Res.mk ?_)
  show D.int _ _ = D.int _ (Int.sign (zv b l))
  rw [dsg_dof]
theorem dofn_sim (n : Int) (h1 : -9223372036854775808 ≤ n) (h2 : n ≤ 9223372036854775807) : Sim Tryz.prog G0 false 128 [.int .i64 n] (dyD (dof n 0)) := by
  have h3 : Zt 134217728 n := .small (by omega) (by decide)
  refine sim_mk tab_ok Tryz.func128 rfl (by kernel_rfl) rfl ⟨Nat.le_of_ble_eq_true rfl, Nat.le_of_ble_eq_true rfl⟩ ?_
  repeat' ((conv => whnf); first
    | with_reducible refine CallX.data ?_
    | refine CallE.mk _ _ (zof_sim _ (by omega) (by omega)) ?_
    | refine CallE.mk _ _ (draw_sim (.of h3) h3 (by decide) (by decide)) ?_
    | refine RegE.early (Cd.mk (show regOk _ _ _ _ = true by kernel_rfl) ?_)
    | refine Cd.mk rfl ?_
    | (refine TkE.fL ?_; (conv => whnf); fail_if_success (show forceL _ _))
    | refine Res.mk ?_
    | ((with_reducible refine EqE.idS ?_); (refine EqE.fP ?_; (conv => whnf); fail_if_success (show forceL _ _)))
    | refine Cd.mk (Nat.le_of_ble_eq_true rfl) ?_)
  rfl
theorem dsg_zero {q : Dyadic} (h : dsg q = 0) : q = 0 := dsg_eq.1 h
theorem dadd_sim {x y : D} {p q : Dyadic} (hx : DyR x p) (hy : DyR y q) : Sim Tryz.prog G0 false 137 [x, y] (dyD (p + q)) := by
  obtain ⟨hp1, hp2, hp3⟩ := hx.parts
  obtain ⟨hq1, hq2, hq3⟩ := hy.parts
  have kx := hx
  have ky := hy
  have hp := DyR.of hx.ht
  have hq := DyR.of hy.ht
  obtain ⟨b, l, e, hl, h1, h2, _⟩ := hx
  obtain ⟨c, k, f, hk, h3, h4, _⟩ := hy
  generalize dof (zv b l) e = p at *
  generalize dof (zv c k) f = q at *
  have u1 : Zt 4194304 (dman p * 2 ^ (dexp p - min (dexp p) (dexp q)).toNat) := hp1.shl (by omega)
  have u2 : Zt 4194304 (dman q * 2 ^ (dexp q - min (dexp p) (dexp q)).toNat) := hq1.shl (by omega)
  refine sim_mk tab_ok Tryz.func137 rfl (by kernel_rfl) rfl ⟨Nat.le_of_ble_eq_true rfl, Nat.le_of_ble_eq_true rfl⟩ ?_
  repeat' ((conv => whnf); first
    | with_reducible refine CallX.data ?_
    | refine CallE.mk _ _ (dof_sim kx) ?_
    | refine CallE.mk _ _ (dof_sim ky) ?_
    | refine CallE.mk _ _ (dsign_sim hp) ?_
    | refine CallE.mk _ _ (dsign_sim hq) ?_
    | refine CallE.mk _ _ (zup_sim _ (.of (n := dman p) (hp1.mono (by decide))) (by omega)) ?_
    | refine CallE.mk _ _ (zup_sim _ (.of (n := dman q) (hq1.mono (by decide))) (by omega)) ?_
    | refine CallE.mk _ _ (zadd_sim (.of (u1.mono (by decide))) (.of (u2.mono (by decide)))) ?_
    | refine CallE.mk _ _ (draw_sim (.of ((u1.add u2 (c := 5000000) (by decide)).mono (by decide))) ((u1.add u2 (c := 5000000) (by decide)).mono (by decide)) (by omega) (by omega)) ?_
    | refine RegE.early (Cd.mk (show regOk _ _ _ _ = true by kernel_rfl) ?_)
    | refine Cd.mk rfl ?_
    | with_reducible refine Br.dec (fun _ => ?_) (fun _ => ?_)
    | refine NthE.mk _ rfl ?_
    | (refine TkE.fL ?_; (conv => whnf); fail_if_success (show forceL _ _))
    | refine Res.mk ?_
    | ((with_reducible refine EqE.idW ?_); refine EqE.mk _ (wrap_in (by omega) (by omega)) ?_)
    | ((with_reducible refine EqE.idI ?_); refine EqE.mk _ (min_eq _ _) ?_)
    | ((with_reducible refine EqE.idS ?_); (refine EqE.fP ?_; (conv => whnf); fail_if_success (show forceL _ _)))
    | refine Cd.mk (Nat.le_of_ble_eq_true rfl) ?_)
  · rename_i h
    show dyD _ = dyD q
    rw [dsg_eq.1 h, Dyadic.zero_add]
  · rename_i h0 h
    show dyD _ = dyD p
    rw [dsg_eq.1 h, Dyadic.add_zero]
  · exact congrArg dyD (dof_sum p q).symm
theorem dneg_sim {x : D} {p : Dyadic} (hx : DyR x p) : Sim Tryz.prog G0 false 148 [x] (dyD (-p)) := by
  obtain ⟨b, l, e, hl, h1, h2, hq⟩ := hx
  have hz := zt_len (b := b) hl
  refine sim_mk tab_ok Tryz.func148 rfl (by kernel_rfl) rfl ⟨Nat.le_of_ble_eq_true rfl, Nat.le_of_ble_eq_true rfl⟩ ?_
  repeat' ((conv => whnf); first
    | refine CallE.mk _ _ (zneg_sim (.mk b l (by omega))) ?_
    | refine CallE.mk _ _ (dkept_sim _ (by omega) (by omega)) ?_
    | refine CallE.mk _ _ (draw_sim (.of (hz.neg.mono (by decide))) (hz.neg.mono (by decide)) (by omega) (by omega)) ?_
    | refine RegE.early (Cd.mk (show regOk _ _ _ _ = true by kernel_rfl) ?_)
    | refine Cd.mk rfl ?_
    | refine NthE.mk _ rfl ?_
    | (refine TkE.fL ?_; (conv => whnf); fail_if_success (show forceL _ _))
    | refine Res.mk ?_
    | ((with_reducible refine EqE.idS ?_); (refine EqE.fP ?_; (conv => whnf); fail_if_success (show forceL _ _)))
    | refine Cd.mk (Nat.le_of_ble_eq_true rfl) ?_)
  exact congrArg dyD (dof_neg _ _)
theorem dsub_sim {x y : D} {p q : Dyadic} (hx : DyR x p) (hy : DyR y q) : Sim Tryz.prog G0 false 138 [x, y] (dyD (p - q)) := by
  obtain ⟨b, l, e, hl, h1, h2, hq⟩ := hx
  obtain ⟨c, k, f, hk, h3, h4, hr⟩ := hy
  have hz := zt_len (b := c) hk
  have e1 : (ofN (-zv c k).natAbs).length ≤ 65536 := hz.neg.len (by decide)
  have e2 : dof (zv (zneg (-zv c k)) (ofN (-zv c k).natAbs)) f = -dof (zv c k) f := by rw [zv_self, dof_neg]
  have kx := DyR.mk b l e hl h1 h2 hq
  have ky := DyR.mk (zneg (-zv c k)) (ofN (-zv c k).natAbs) f e1 h3 h4 (e2 ▸ hr.neg)
  rw [e2] at ky
  refine sim_mk tab_ok Tryz.func138 rfl (by kernel_rfl) rfl ⟨Nat.le_of_ble_eq_true rfl, Nat.le_of_ble_eq_true rfl⟩ ?_
  repeat' ((conv => whnf); first
    | refine CallE.mk _ _ (zneg_sim (.mk c k (by omega))) ?_
    | refine CallE.mk _ _ (dadd_sim kx ky) ?_
    | refine RegE.early (Cd.mk (show regOk _ _ _ _ = true by kernel_rfl) ?_)
    | refine Cd.mk rfl ?_
    | refine NthE.mk _ rfl ?_
    | (refine TkE.fL ?_; (conv => whnf); fail_if_success (show forceL _ _))
    | refine Res.mk ?_
    | ((with_reducible refine EqE.idS ?_); (refine EqE.fP ?_; (conv => whnf); fail_if_success (show forceL _ _)))
    | refine Cd.mk (Nat.le_of_ble_eq_true rfl) ?_)
  rfl
theorem dcmp_sim {x y : D} {p q : Dyadic} (hx : DyR x p) (hy : DyR y q) (hpq : Ht 1048576 (p - q)) : Sim Tryz.prog G0 true 146 [x, y] (.int .i64 (dsg (p - q))) := by
  have kx := hx
  have ky := hy
  obtain ⟨b, l, e, hl, h1, h2, hq⟩ := hx
  obtain ⟨c, k, f, hk, h3, h4, hr⟩ := hy
  refine sim_mk tab_ok Tryz.func146 rfl (by kernel_rfl) rfl ⟨Nat.le_of_ble_eq_true rfl, Nat.le_of_ble_eq_true rfl⟩ ?_
  repeat' ((conv => whnf); first
    | with_reducible refine CallX.data ?_
    | refine CallE.mk _ _ (dsub_sim kx ky) ?_
    | refine CallE.mk _ _ (dsign_sim (.of hpq)) ?_
    | refine RegE.early (Cd.mk (show regOk _ _ _ _ = true by kernel_rfl) ?_)
    | refine Cd.mk rfl ?_
    | (refine TkE.fL ?_; (conv => whnf); fail_if_success (show forceL _ _))
    | refine Res.mk ?_)
  rfl
theorem dmul_sim {x y : D} {p q : Dyadic} (hx : DyR x p) (hy : DyR y q) : Sim Tryz.prog G0 false 145 [x, y] (dyD (p * q)) := by
  obtain ⟨b, l, e, hl, h1, h2, _⟩ := hx
  obtain ⟨c, k, f, hk, h3, h4, _⟩ := hy
  have hz := (zt_len (b := b) hl).mul (zt_len (b := c) hk) (c := 4194304) (by decide)
  refine sim_mk tab_ok Tryz.func145 rfl (by kernel_rfl) rfl ⟨Nat.le_of_ble_eq_true rfl, Nat.le_of_ble_eq_true rfl⟩ ?_
  repeat' ((conv => whnf); first
    | refine CallE.mk _ _ (zmul_sim (.mk b l (by omega)) (.mk c k (by omega))) ?_
    | refine CallE.mk _ _ (dkept_sim _ (by omega) (by omega)) ?_
    | refine CallE.mk _ _ (draw_sim (.of (hz.mono (by decide))) (hz.mono (by decide)) (by omega) (by omega)) ?_
    | refine RegE.early (Cd.mk (show regOk _ _ _ _ = true by kernel_rfl) ?_)
    | refine Cd.mk rfl ?_
    | refine NthE.mk _ rfl ?_
    | (refine TkE.fL ?_; (conv => whnf); fail_if_success (show forceL _ _))
    | refine Res.mk ?_
    | ((with_reducible refine EqE.idW ?_); refine EqE.mk _ (wrap_in (by omega) (by omega)) ?_)
    | ((with_reducible refine EqE.idS ?_); (refine EqE.fP ?_; (conv => whnf); fail_if_success (show forceL _ _)))
    | refine Cd.mk (Nat.le_of_ble_eq_true rfl) ?_)
  exact congrArg dyD (dof_mul _ _ _ _)
theorem dabs_sim {x : D} {p : Dyadic} (hx : DyR x p) : Sim Tryz.prog G0 false 173 [x] (dyD (dabs p)) := by
  obtain ⟨b, l, e, hl, h1, h2, hq⟩ := hx
  have hz := zt_len (b := false) hl
  refine sim_mk tab_ok Tryz.func173 rfl (by kernel_rfl) rfl ⟨Nat.le_of_ble_eq_true rfl, Nat.le_of_ble_eq_true rfl⟩ ?_
  repeat' ((conv => whnf); first
    | refine CallE.mk _ _ (dkept_sim _ (by omega) (by omega)) ?_
    | refine CallE.mk _ _ (draw_sim (.mk false l (by omega)) (hz.mono (by decide)) (by omega) (by omega)) ?_
    | refine RegE.early (Cd.mk (show regOk _ _ _ _ = true by kernel_rfl) ?_)
    | refine Cd.mk rfl ?_
    | refine NthE.mk _ rfl ?_
    | (refine TkE.fL ?_; (conv => whnf); fail_if_success (show forceL _ _))
    | refine Res.mk ?_
    | ((with_reducible refine EqE.idS ?_); (refine EqE.fP ?_; (conv => whnf); fail_if_success (show forceL _ _)))
    | refine Cd.mk (Nat.le_of_ble_eq_true rfl) ?_)
  refine congrArg dyD ?_
  rw [dabs_dof, zv_natAbs]; rfl
theorem dscale_sim {x : D} {p : Dyadic} (n : Int) (hx : DyR x p) : Sim Tryz.prog G0 false 126 [x, .int .i64 n] (dyD (p * dof 1 (min (max n (-20000)) 20000))) := by
  obtain ⟨b, l, e, hl, h1, h2, hq⟩ := hx
  have hz := zt_len (b := b) hl
  refine sim_mk tab_ok Tryz.func126 rfl (by kernel_rfl) rfl ⟨Nat.le_of_ble_eq_true rfl, Nat.le_of_ble_eq_true rfl⟩ ?_
  repeat' ((conv => whnf); first
    | refine CallE.mk _ _ (dkept_sim _ (by omega) (by omega)) ?_
    | refine CallE.mk _ _ (dheld_sim _) ?_
    | refine CallE.mk _ _ (draw_sim (.mk b l (by omega)) (hz.mono (by decide)) (by omega) (by omega)) ?_
    | refine RegE.early (Cd.mk (show regOk _ _ _ _ = true by kernel_rfl) ?_)
    | refine Cd.mk rfl ?_
    | refine NthE.mk _ rfl ?_
    | (refine TkE.fL ?_; (conv => whnf); fail_if_success (show forceL _ _))
    | refine Res.mk ?_
    | ((with_reducible refine EqE.idW ?_); refine EqE.mk _ (wrap_in (by omega) (by omega)) ?_)
    | ((with_reducible refine EqE.idS ?_); (refine EqE.fP ?_; (conv => whnf); fail_if_success (show forceL _ _)))
    | refine Cd.mk (Nat.le_of_ble_eq_true rfl) ?_)
  refine congrArg dyD ?_
  rw [dof_mul, Int.mul_one]
theorem dsame_sim {x y : D} {p q : Dyadic} (hx : DyR x p) (hy : DyR y q) (hpq : Ht 1048576 (p - q)) : Sim Tryz.prog G0 true 194 [x, y] (.bool (decide (p = q))) := by
  have kx := hx
  have ky := hy
  obtain ⟨b, l, e, hl, h1, h2, hq⟩ := hx
  obtain ⟨c, k, f, hk, h3, h4, hr⟩ := hy
  generalize dof (zv b l) e = p at *
  generalize dof (zv c k) f = q at *
  refine sim_mk tab_ok Tryz.func194 rfl (by kernel_rfl) rfl ⟨Nat.le_of_ble_eq_true rfl, Nat.le_of_ble_eq_true rfl⟩ ?_
  repeat' ((conv => whnf); first
    | with_reducible refine CallX.data ?_
    | refine CallE.mk _ _ (dcmp_sim kx ky hpq) ?_
    | refine RegE.early (Cd.mk (show regOk _ _ _ _ = true by kernel_rfl) ?_)
    | refine Cd.mk rfl ?_
    | (refine TkE.fL ?_; (conv => whnf); fail_if_success (show forceL _ _))
    | refine Res.mk ?_)
  show D.bool _ = D.bool (decide (dsg (p - q) = 0))
  congr 1
  refine decide_eq_decide.2 ?_
  rw [dsg_eq]; grind
theorem dtop_sim {x : D} {p : Dyadic} (hx : DyR x p) : Sim Tryz.prog G0 true 212 [x] (.int .i64 (dtop p)) := by
  obtain ⟨hp1, hp2, hp3⟩ := hx.parts
  have kx := hx
  have hp := DyR.of hx.ht
  obtain ⟨b, l, e, hl, h1, h2, _⟩ := hx
  generalize dof (zv b l) e = p at *
  have e1 := hp1.len (k := 65536) (by decide)
  have e2 : nb (nv (ofN (dman p).natAbs)) ≤ 2097152 := by rw [nv_ofN]; exact hp1.nb
  refine sim_mk tab_ok Tryz.func212 rfl (by kernel_rfl) rfl ⟨Nat.le_of_ble_eq_true rfl, Nat.le_of_ble_eq_true rfl⟩ ?_
  repeat' ((conv => whnf); first
    | with_reducible refine CallX.data ?_
    | refine CallE.mk _ _ (dof_sim kx) ?_
    | refine CallE.mk _ _ (dsign_sim hp) ?_
    | refine CallE.mk _ _ (bits_sim _ (by omega)) ?_
    | refine RegE.early (Cd.mk (show regOk _ _ _ _ = true by kernel_rfl) ?_)
    | refine Cd.mk rfl ?_
    | with_reducible refine Br.dec (fun _ => ?_) (fun _ => ?_)
    | refine NthE.mk _ rfl ?_
    | (refine TkE.fL ?_; (conv => whnf); fail_if_success (show forceL _ _))
    | refine Res.mk ?_
    | ((with_reducible refine EqE.idW ?_); refine EqE.mk _ (wrap_in (by omega) (by omega)) ?_)
    | ((with_reducible refine EqE.idS ?_); (refine EqE.fP ?_; (conv => whnf); fail_if_success (show forceL _ _)))
    | refine Cd.mk (Nat.le_of_ble_eq_true rfl) ?_)
  · rename_i h
    show D.int _ _ = D.int _ _
    rw [dsg_eq.1 h]; rfl
  · rename_i h
    show D.int _ _ = D.int _ _
    rw [nv_ofN]; unfold dtop
    rw [if_neg (fun e => h (dsg_eq.2 (dman_eq_zero.1 e)))]
theorem dmin_sim {x y : D} {p q : Dyadic} (hx : DyR x p) (hy : DyR y q) (hpq : Ht 1048576 (p - q)) : Sim Tryz.prog G0 false 123 [x, y] (dyD (if p ≤ q then p else q)) := by
  have kx := hx
  have ky := hy
  obtain ⟨b, l, e, hl, h1, h2, hq⟩ := hx
  obtain ⟨c, k, f, hk, h3, h4, hr⟩ := hy
  generalize dof (zv b l) e = p at *
  generalize dof (zv c k) f = q at *
  refine sim_mk tab_ok Tryz.func123 rfl (by kernel_rfl) rfl ⟨Nat.le_of_ble_eq_true rfl, Nat.le_of_ble_eq_true rfl⟩ ?_
  repeat' ((conv => whnf); first
    | with_reducible refine CallX.data ?_
    | refine CallE.mk _ _ (dcmp_sim kx ky hpq) ?_
    | refine CallE.mk _ _ (dof_sim kx) ?_
    | refine CallE.mk _ _ (dof_sim ky) ?_
    | refine RegE.early (Cd.mk (show regOk _ _ _ _ = true by kernel_rfl) ?_)
    | refine Cd.mk rfl ?_
    | with_reducible refine Br.dec (fun _ => ?_) (fun _ => ?_)
    | (refine TkE.fL ?_; (conv => whnf); fail_if_success (show forceL _ _))
    | refine Res.mk ?_
    | ((with_reducible refine EqE.idS ?_); (refine EqE.fP ?_; (conv => whnf); fail_if_success (show forceL _ _)))
    | refine Cd.mk (Nat.le_of_ble_eq_true rfl) ?_)
  · rename_i h
    show dyD _ = dyD p
    rw [if_pos (by rw [dsg_le] at h; grind)]
  · rename_i h
    show dyD _ = dyD q
    rw [if_neg (by rw [dsg_le] at h; grind)]
theorem dmax_sim {x y : D} {p q : Dyadic} (hx : DyR x p) (hy : DyR y q) (hpq : Ht 1048576 (p - q)) : Sim Tryz.prog G0 false 124 [x, y] (dyD (if q ≤ p then p else q)) := by
  have kx := hx
  have ky := hy
  obtain ⟨b, l, e, hl, h1, h2, hq⟩ := hx
  obtain ⟨c, k, f, hk, h3, h4, hr⟩ := hy
  generalize dof (zv b l) e = p at *
  generalize dof (zv c k) f = q at *
  refine sim_mk tab_ok Tryz.func124 rfl (by kernel_rfl) rfl ⟨Nat.le_of_ble_eq_true rfl, Nat.le_of_ble_eq_true rfl⟩ ?_
  repeat' ((conv => whnf); first
    | with_reducible refine CallX.data ?_
    | refine CallE.mk _ _ (dcmp_sim kx ky hpq) ?_
    | refine CallE.mk _ _ (dof_sim kx) ?_
    | refine CallE.mk _ _ (dof_sim ky) ?_
    | refine RegE.early (Cd.mk (show regOk _ _ _ _ = true by kernel_rfl) ?_)
    | refine Cd.mk rfl ?_
    | with_reducible refine Br.dec (fun _ => ?_) (fun _ => ?_)
    | (refine TkE.fL ?_; (conv => whnf); fail_if_success (show forceL _ _))
    | refine Res.mk ?_
    | ((with_reducible refine EqE.idS ?_); (refine EqE.fP ?_; (conv => whnf); fail_if_success (show forceL _ _)))
    | refine Cd.mk (Nat.le_of_ble_eq_true rfl) ?_)
  · rename_i h
    show dyD _ = dyD p
    rw [if_pos (by rw [dsg_ge] at h; grind)]
  · rename_i h
    show dyD _ = dyD q
    rw [if_neg (by rw [dsg_ge] at h; grind)]
end Go.Ev.Ar
