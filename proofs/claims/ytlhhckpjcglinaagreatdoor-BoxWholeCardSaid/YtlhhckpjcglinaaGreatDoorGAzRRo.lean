/- Contracts of the given functions, on data. Conditions stand in each theorem. -/
import Derived.Test.YtlhhckpjcglinaaGreatDoorGAzDyL
import Derived.Test.YtlhhckpjcglinaaGreatDoorGEvZ
import Derived.Test.YtlhhckpjcglinaaGreatDoorGAzRealB
import Derived.Test.YtlhhckpjcglinaaGreatDoorGAzRReal
set_option linter.unusedSimpArgs false
set_option linter.unusedVariables false
namespace Go.Ev.Ar
open Go Go.Ev Go.Proofs

theorem rshrint_sim {x : D} {m : Int} (n : Int) (hx : ZR x m) (hm : Zt 100000000 m) (h0 : 0 ≤ n) (hn : n ≤ 100000) : Sim Tryz.prog G0 false 216 [x, .int .i64 n] (zD (m / 2 ^ n.toNat)) := by
  have hK := one_shl_pos n
  obtain ⟨j, hj⟩ : ∃ j, j = 200000 := ⟨_, rfl⟩
  have hk := one_shl_lt n j (by omega) (by omega)
  have hr := one_shl_int n
  have hd := rdivint_sim _ hx hK hm (by omega) hk
  rw [hr] at hd
  obtain ⟨b, l, hl⟩ := hx
  refine sim_mk tab_ok Tryz.func216 rfl (by kernel_rfl) rfl ⟨Nat.le_of_ble_eq_true rfl, Nat.le_of_ble_eq_true rfl⟩ ?_
  repeat' ((conv => whnf); first
    | refine DsE.mk (limbs [1]) rfl ?_
    | refine CallE.mk _ _ (rshl_sim _ _ (by simp) (by omega)) ?_
    | refine CallE.mk _ _ (hd) ?_
    | refine RegE.early (Cd.mk (show regOk _ _ _ _ = true by kernel_rfl) ?_)
    | refine Cd.mk rfl ?_
    | refine NthE.mk _ rfl ?_
    | (refine TkE.fL ?_; (conv => whnf); fail_if_success (show forceL _ _))
    | refine Res.mk ?_
    | ((with_reducible refine EqE.idS ?_); (refine EqE.fP ?_; (conv => whnf); fail_if_success (show forceL _ _)))
    | ((with_reducible refine EqE.idL ?_); refine EqE.mk (sl [1]) rfl ?_)
    | refine Cd.mk (Nat.le_of_ble_eq_true rfl) ?_)
  rfl
theorem grd_ht {h k : Nat} {q : Dyadic} (hq : Ht h q) (e mode : Int) (h1 : -(k : Int) ≤ e) (h2 : e ≤ k) : Ht (2 * h + 64 + k + 1) (grd q e mode) := by
  unfold grd
  split
  · exact hq.mono (by omega)
  · refine Ht.dof (a := 2 * h + 64 + 1) (b := k) ?_ h1 h2 (by omega)
    have hz := zt_floor hq.parts.1 (e - dexp q).toNat
    show Zt _ (if upB _ _ _ _ = true then _ else _)
    split
    · exact (hz.mono (show 2 * h ≤ 2 * h + 64 by omega)).add (Zt.small (n := 1) (h := 64) (by decide) (by decide)) (by omega)
    · exact hz.mono (by omega)
set_option maxHeartbeats 4000000 in
theorem rgrid_sim {q : Dyadic} (e mode : Int) (hq : Ht 10000 q) (h1 : -20000 ≤ e) (h2 : e ≤ 25000) : Sim Tryz.prog G0 false 197 [dyD q, .int .i64 e, .int .i64 mode] (dyD (grd q e mode)) := by
  obtain ⟨hp1, hp2, hp3⟩ := hq.parts
  refine sim_mk tab_ok Tryz.func197 rfl (by kernel_rfl) rfl ⟨Nat.le_of_ble_eq_true rfl, Nat.le_of_ble_eq_true rfl⟩ ?_
  by_cases h : e ≤ dexp q
  · rw [grd_ge h]
    repeat' ((conv => whnf); first
      | with_reducible refine Br.dec (fun _ => ?_) (fun h => absurd (by omega) h)
      | refine RegE.early (Cd.mk (show regOk _ _ _ _ = true by kernel_rfl) ?_)
      | refine Cd.mk rfl ?_
      | refine Br.t ?_
      | refine NthE.mk _ rfl ?_
      | (refine TkE.fL ?_; (conv => whnf); fail_if_success (show forceL _ _))
      | refine Res.mk ?_
      | ((with_reducible refine EqE.idS ?_); (refine EqE.fP ?_; (conv => whnf); fail_if_success (show forceL _ _)))
      | refine Cd.mk (Nat.le_of_ble_eq_true rfl) ?_)
    rfl
  by_cases h0 : dsg q = 0
  · obtain rfl := dsg_eq.1 h0
    rw [grd_zero]
    repeat' ((conv => whnf); first
      | with_reducible refine CallX.data ?_
      | with_reducible refine Br.dec (fun h => absurd h (by omega)) (fun _ => ?_)
      | with_reducible refine Br.dec (fun _ => ?_) (fun h => absurd (by omega) h)
      | refine CallE.mk _ _ (rdsign_sim (Ht.zero _)) ?_
      | refine RegE.early (Cd.mk (show regOk _ _ _ _ = true by kernel_rfl) ?_)
      | refine Cd.mk rfl ?_
      | refine Br.f ?_
      | refine NthE.mk _ rfl ?_
      | (refine TkE.fL ?_; (conv => whnf); fail_if_success (show forceL _ _))
      | refine Res.mk ?_
      | ((with_reducible refine EqE.idS ?_); (refine EqE.fP ?_; (conv => whnf); fail_if_success (show forceL _ _)))
      | refine Cd.mk (Nat.le_of_ble_eq_true rfl) ?_)
    rfl
  have q0 : q ≠ 0 := fun e => h0 (dsg_eq.2 e)
  unfold grd
  rw [if_neg h]
  have hs : e - dexp q = (((e - dexp q).toNat : Nat) : Int) := by omega
  have hs2 : (e - dexp q).toNat ≤ 35000 := by omega
  obtain ⟨z1, z2, z3⟩ := ro_floor hp1 (show (e - dexp q).toNat ≤ 3100000 by omega) (by decide)
  have hodd := odd_rest (dman_odd q0) (show 0 < (e - dexp q).toNat by omega)
  generalize hS : (e - dexp q).toNat = S at *
  have z4 : Zt 20065 (dman q / 2 ^ S + 1) := (z1.mono (show 2 * 10000 ≤ 20064 by decide)).add (Zt.small (n := 1) (h := 64) (by decide) (by decide)) (by decide)
  have w1 : Zt 4200001 ((dman q - dman q / 2 ^ S * 2 ^ S) * 2 ^ Int.toNat 1) := z3.shl (by decide)
  have w2 : Zt 4200000 (1 * 2 ^ (S : Int).toNat) := (Zt.small (n := 1) (h := 64) (by decide) (by decide)).shl (by omega)
  have o1 : ZR (zD 1) 1 := (cz (by decide)).1
  have o2 : ∀ k, 64 ≤ k → Zt k 1 := fun k hk => Zt.small (by decide) hk
  have hx0 := u32_lt ((ofN (dman q / 2 ^ (S : Int).toNat).natAbs).getD (Int.toNat 0) 0)
  have hg1 : Ht 50000 (dof (dman q / 2 ^ (S : Int).toNat) e) := Ht.dof (a := 20000) (b := 25000) z1 (by omega) (by omega) (by decide)
  have hg2 : Ht 50000 (dof (dman q / 2 ^ (S : Int).toNat + 1) e) := Ht.dof (a := 20065) (b := 25000) z4 (by omega) (by omega) (by decide)
  repeat' ((conv => whnf); first
    | with_reducible refine CallX.data ?_
    | with_reducible refine Br.dec (fun h => absurd h (by omega)) (fun _ => ?_)
    | refine CallE.mk _ _ (rdsign_sim (hq.mono (by decide))) ?_
    | refine CallE.mk _ _ (rshrint_sim _ (.of (n := dman q) (hp1.mono (by decide))) (hp1.mono (by decide)) (by omega) (by omega)) ?_
    | refine CallE.mk _ _ (rofint_sim 1 (by decide) (by decide)) ?_
    | refine CallE.mk _ _ (raddint_sim (.of (z1.mono (by decide))) o1 (z1.mono (by decide)) (o2 _ (by decide))) ?_
    | refine CallE.mk _ _ (rshlint_sim S (.of (z1.mono (by decide))) (z1.mono (by decide)) (by omega)) ?_
    | refine CallE.mk _ _ (rsubint_sim (.of (n := dman q) (hp1.mono (by decide))) (.of (z2.mono (by decide))) (hp1.mono (by decide)) (z2.mono (by decide))) ?_
    | refine CallE.mk _ _ (rshlint_sim 1 (.of (z3.mono (by decide))) (z3.mono (by decide)) (by decide)) ?_
    | refine CallE.mk _ _ (rshlint_sim _ o1 (o2 _ (by decide)) (by omega)) ?_
    | refine CallE.mk _ _ (rcmpint_sim (.of (w1.mono (by decide))) (.of (w2.mono (by decide))) (w1.mono (by decide)) (w2.mono (by decide))) ?_
    | refine CallE.mk _ _ (rexact_sim (.of (z4.mono (by decide))) (z4.mono (by decide)) (tz_of_ht hg2 (by omega)) (by omega) (by omega)) ?_
    | refine CallE.mk _ _ (rexact_sim (.of (z1.mono (by decide))) (z1.mono (by decide)) (tz_of_ht hg1 (by omega)) (by omega) (by omega)) ?_
    | refine Cd.mk (by simp only [length_limbs, Nat.mul_one]; exact ⟨⟨Int.le_refl _, by omega⟩, by rw [Int.toNat_zero]; omega⟩) ?_
    | refine RegE.early (Cd.mk (show regOk _ _ _ _ = true by kernel_rfl) ?_)
    | refine Cd.mk rfl ?_
    | refine Br.t ?_
    | refine Br.f ?_
    | with_reducible refine Br.dec (fun _ => ?_) (fun _ => ?_)
    | refine NthE.mk _ (limbs_drop _ _ (by omega)) ?_
    | refine NthE.mk _ rfl ?_
    | (refine TkE.fL ?_; (conv => whnf); fail_if_success (show forceL _ _))
    | refine Res.mk ?_
    | ((with_reducible refine EqE.idW ?_); first | refine EqE.mk ((S : Nat) : Int) (by rw [wrap_in (by omega) (by omega)]; exact hs) ?_ | with_reducible refine EqE.mk _ (n_and1_32 _ (by omega)) ?_)
    | ((with_reducible refine EqE.idS ?_); (refine EqE.fP ?_; (conv => whnf); fail_if_success (show forceL _ _)))
    | refine Cd.mk (Nat.le_of_ble_eq_true rfl) ?_)
  all_goals
    show dyD (dof (if upB (dman q / 2 ^ S) (dman q - dman q / 2 ^ S * 2 ^ S) S mode = true then dman q / 2 ^ S + 1 else dman q / 2 ^ S) e) = dyD _
  · rename_i h3
    rw [if_neg (by unfold upB; rw [if_pos h3]; decide)]; rfl
  · rename_i h3 h4
    rw [if_pos (by unfold upB; rw [if_neg h3, if_pos h4, Int.sign_eq_one_of_pos hodd]; rfl)]; rfl
  all_goals
    have hX : (dman q - dman q / 2 ^ S * 2 ^ S) * 2 - 2 ^ S = (dman q - dman q / 2 ^ (S : Int).toNat * 2 ^ (S : Int).toNat) * 2 ^ Int.toNat 1 - 1 * 2 ^ (S : Int).toNat := by
      rw [Int.toNat_natCast, Int.one_mul]; rfl
    have hpar : (dman q / 2 ^ S) % 2 = 1 ↔ ((ofN (dman q / 2 ^ S).natAbs).getD 0 0).toNat % 2 = 1 := by
      have h := zv_odd (zneg (dman q / 2 ^ S)) (ofN (dman q / 2 ^ S).natAbs)
      rwa [zv_self] at h
  · rename_i h3 h4 h5
    rw [if_pos (by unfold upB; rw [if_neg h3, if_neg h4, hX, decide_eq_true h5]; rfl)]; rfl
  · rename_i h3 h4 h5 h6 h7 h8
    have h8 : (((ofN (dman q / 2 ^ S).natAbs).getD 0 0).toNat % 2 : Nat) = 1 := by exact_mod_cast h8
    rw [if_pos (by unfold upB; rw [if_neg h3, if_neg h4, hX, decide_eq_false h5, decide_eq_true h6, decide_eq_true (hpar.2 h8)]; rfl)]; rfl
  · rename_i h3 h4 h5 h6 h7 h8
    have h8 : ¬ (((ofN (dman q / 2 ^ S).natAbs).getD 0 0).toNat % 2 : Nat) = 1 := fun e => h8 (by exact_mod_cast e)
    rw [if_neg (by unfold upB; rw [if_neg h3, if_neg h4, hX, decide_eq_false h5, decide_eq_false (fun e => h8 (hpar.1 e)), Bool.and_false]; decide)]; rfl
  · rename_i h3 h4 h5 h6 h7
    have h7 : ¬ (((ofN (dman q / 2 ^ S).natAbs).length : Nat) : Int) > 0 := h7
    have h8 : ¬ ((ofN (dman q / 2 ^ S).natAbs).getD 0 0).toNat % 2 = 1 := by rw [getD_big (by omega)]; decide
    rw [if_neg (by unfold upB; rw [if_neg h3, if_neg h4, hX, decide_eq_false h5, decide_eq_false (fun e => h8 (hpar.1 e)), Bool.and_false]; decide)]; rfl
  · rename_i h3 h4 h5 h6
    rw [if_neg (by unfold upB; rw [if_neg h3, if_neg h4, hX, decide_eq_false h5, decide_eq_false h6]; simp)]; rfl
theorem rTo_sim {q : Dyadic} (p mode : Int) (hq : Ht 9000 q) : Sim Tryz.prog G0 false 156 [dyD q, .int .i64 p, .int .i64 mode] (dyD (rto q p mode)) := by
  have ht := dtop_bd hq
  have e3 : max 1 (min p 4000) = min (max p 1) 4000 := by omega
  refine sim_mk tab_ok Tryz.func156 rfl (by kernel_rfl) rfl ⟨Nat.le_of_ble_eq_true rfl, Nat.le_of_ble_eq_true rfl⟩ ?_
  repeat' ((conv => whnf); first
    | with_reducible refine CallX.data ?_
    | refine CallE.mk _ _ (rdsign_sim (hq.mono (by decide))) ?_
    | refine CallE.mk _ _ (rdtop_sim (hq.mono (by decide))) ?_
    | refine CallE.mk _ _ (rgrid_sim _ _ (hq.mono (by decide)) (by omega) (by omega)) ?_
    | refine RegE.early (Cd.mk (show regOk _ _ _ _ = true by kernel_rfl) ?_)
    | refine Cd.mk rfl ?_
    | with_reducible refine Br.dec (fun _ => ?_) (fun _ => ?_)
    | (refine TkE.fL ?_; (conv => whnf); fail_if_success (show forceL _ _))
    | refine Res.mk ?_
    | ((with_reducible refine EqE.idW ?_); refine EqE.mk _ (wrap_in (by omega) (by omega)) ?_)
    | ((with_reducible refine EqE.idI ?_); first | refine EqE.mk _ (max_eq _ _) ?_ | refine EqE.mk _ (min_eq _ _) ?_)
    | ((with_reducible refine EqE.idS ?_); (refine EqE.fP ?_; (conv => whnf); fail_if_success (show forceL _ _)))
    | refine Cd.mk (Nat.le_of_ble_eq_true rfl) ?_)
  · rename_i h
    obtain rfl := dsg_eq.1 h
    rfl
  · rename_i h
    show dyD _ = dyD (grd q (dtop q - max 1 (min p 4000) + 1) mode)
    rw [e3]; unfold rto unitE; rw [if_neg (fun e => h (dsg_eq.2 e))]
end Go.Ev.Ar

namespace Go.Ev.Ar
open Go Go.Ev Go.Proofs

theorem stD_ne {x y : Dyadic} {n : Nat} (hx : x ≠ 0) (hy : 0 < y) : stD x y n ≠ 0 := by
  intro e
  have h := stD_le (n := n) hx hy 0 (E := dexp x - dexp y - n) (Int.le_refl _)
  rw [e, dof_zero, Dyadic.mul_zero] at h
  obtain ⟨h1, h2⟩ := h
  have a1 := h1.1 (by grind)
  have a2 := h2.1 (by grind)
  exact hx (by grind)
theorem qexp_neg (x y : Dyadic) (p : Int) : qexp (-x) (-y) p = qexp x y p := by unfold qexp; rw [qtop_neg]
theorem stD_rto {x y : Dyadic} {n : Nat} {p k : Int} (mode : Int) (hx : x ≠ 0) (hy : y ≠ 0) (hk : min (max k 1) 4000 = min (max p 1) 4000) (hn : dexp x - dexp y - n ≤ qexp x y p) : rto (stD x y n) k (if mode = 1 then 1 else 0) = qdiv x y p mode := by
  have main : ∀ x y : Dyadic, x ≠ 0 → 0 < y → dexp x - dexp y - n ≤ qexp x y p → rto (stD x y n) k (if mode = 1 then 1 else 0) = qpos x y p mode := fun x y hx hy hn => by
    unfold rto
    rw [if_neg (stD_ne hx hy)]
    have e : unitE (stD x y n) k = qexp x y p := by
      unfold unitE qexp
      rw [stD_top hx hy (by unfold qexp at hn; omega), hk]
    rw [e]
    exact stD_grd mode hx hy hn
  rcases Classical.em (0 < y) with h | h
  · rw [qdiv_pos p mode hx h]; exact main x y hx h hn
  · have h2 : y < 0 := by grind
    rw [qdiv_neg p mode hx h2, ← (stD_neg (n := n) hx hy).2]
    exact main (-x) (-y) (fun e => hx (by grind)) (by grind) (by rw [qexp_neg, dexp_neg, dexp_neg]; exact hn)
theorem ht_dof_top {m e : Int} {h : Nat} (h1 : -(h : Int) ≤ e) (h2 : dabs (dof m e) < dof 1 h) : Ht h (dof m e) := by
  obtain ⟨M, hM⟩ : ∃ M, M = m * 2 ^ (e + h).toNat := ⟨_, rfl⟩
  have e2 : dof m e = dof M (-h) := by rw [hM, dof_shl]; congr 1; omega
  refine ⟨M, ?_, e2⟩
  have e3 : dof 1 (h : Int) = dof (2 ^ (2 * h)) (-(h : Int)) := by
    have := dof_shl 1 (-(h : Int)) (2 * h)
    rw [Int.one_mul] at this
    rw [this]; congr 1; omega
  rw [e2, dabs_dof, e3, dof_lt] at h2
  rw [Zt.iff]
  have h3 : ((M.natAbs : Nat) : Int) < ((2 ^ (2 * h) : Nat) : Int) := by rw [Int.natCast_pow]; exact h2
  exact_mod_cast h3
theorem stD_ht {x y : Dyadic} {n h : Nat} (hx0 : x ≠ 0) (hy0 : y ≠ 0) (hn : dexp x - dexp y - n ≤ qtop x y) (h1 : -(h : Int) ≤ dexp x - dexp y - n - 1) (h2 : qtop x y + 1 ≤ h) : Ht h (stD x y n) := by
  have main : ∀ x y : Dyadic, x ≠ 0 → 0 < y → dexp x - dexp y - n ≤ qtop x y → -(h : Int) ≤ dexp x - dexp y - n - 1 → qtop x y + 1 ≤ h → Ht h (stD x y n) := fun x y hx0 hy0 hn h1 h2 => by
    have ht := stD_top hx0 hy0 hn
    have l := lt_dof_one (stD_ne (n := n) hx0 hy0)
    rw [ht] at l
    have l2 : dof 1 (qtop x y + 1) ≤ dof 1 (h : Int) := dof1_le.2 (by omega)
    unfold stD at l ⊢
    exact ht_dof_top (by omega) (by grind)
  rcases Classical.em (0 < y) with h | h
  · exact main x y hx0 h hn h1 h2
  · have e := (stD_neg (n := n) hx0 hy0).2
    rw [← e]
    exact main (-x) (-y) (fun e => hx0 (by grind)) (by grind) (by rw [qtop_neg, dexp_neg, dexp_neg]; exact hn) (by rw [dexp_neg, dexp_neg]; exact h1) (by rw [qtop_neg]; exact h2)
theorem rside_is (mode : Int) : Sim Tryz.prog G0 true 194 [.int .i64 mode] (.int .i64 (if mode = 1 then 1 else 0)) := by
  refine sim_mk tab_ok Tryz.func194 rfl (by kernel_rfl) rfl ⟨Nat.le_of_ble_eq_true rfl, Nat.le_of_ble_eq_true rfl⟩ ?_
  by_cases c : mode = 1
  · rw [if_pos c]
    repeat' ((conv => whnf); first
      | with_reducible refine Br.dec (fun _ => ?_) (fun h => absurd (by omega) h)
      | refine RegE.early (Cd.mk (show regOk _ _ _ _ = true by kernel_rfl) ?_)
      | refine Cd.mk rfl ?_
      | refine Res.mk ?_)
    rfl
  · rw [if_neg c]
    repeat' ((conv => whnf); first
      | with_reducible refine Br.dec (fun h => absurd h (by omega)) (fun _ => ?_)
      | refine RegE.early (Cd.mk (show regOk _ _ _ _ = true by kernel_rfl) ?_)
      | refine Cd.mk rfl ?_
      | refine Res.mk ?_)
    rfl
theorem rbits_at {k : Nat} {n : Int} (hl : (ofN k).length < 2^32) (h : (nb k : Int) = n) : Sim Tryz.prog G0 true 190 [sl (ofN k)] (.int .i64 n) := by
  have s := rbits_sim (ofN k) hl
  rwa [nv_ofN, h] at s
theorem rshl_at {k j : Nat} (n : Int) (hl : (ofN k).length < 2^30) (hn : n ≤ 100000) (h : k * 2 ^ n.toNat = j) : Sim Tryz.prog G0 false 192 [sl (ofN k), .int .i64 n] (sl (ofN j)) := by
  have s := rshl_sim (ofN k) n hl hn
  rwa [nv_ofN, h] at s
theorem rdivn_at {k j : Nat} (hk : (ofN k).length < 2^26) (hj : (ofN j).length < 2^26) (h0 : j ≠ 0) : Sim Tryz.prog G0 false 191 [sl (ofN k), sl (ofN j)] (.tup [sl (ofN (k / j)), sl (ofN (k % j)), .bool true]) := by
  have s := rdiv_sim (ofN k) (ofN j) hk hj (by rwa [nv_ofN])
  rwa [nv_ofN, nv_ofN] at s
theorem radd_at {k j : Nat} (hk : (ofN k).length < 2^30) (h : k + 1 = j) : Sim Tryz.prog G0 false 193 [sl (ofN k), sl [1]] (sl (ofN j)) := by
  have s := radd_sim (ofN k) [1] hk (by simp)
  rwa [nv_ofN, show nv [1] = 1 from rfl, h] at s
theorem rTo_at {q r : Dyadic} (p mode : Int) (hq : Ht 9000 q) (h : rto q p mode = r) : Sim Tryz.prog G0 false 156 [dyD q, .int .i64 p, .int .i64 mode] (dyD r) := h ▸ rTo_sim p mode hq
set_option maxHeartbeats 4000000 in
theorem rDiv_is {p q r : Dyadic} {c : Int} (P mode : Int) (hp : Ht 1400 p) (hq : Ht 2700 q) (hP : P ≤ 300) (h : qdiv p q P mode = r) (hc : (if q = 0 then 11 else 0) = c) :
    Sim Tryz.prog G0 false 154 [dyD p, dyD q, .int .i64 P, .int .i64 mode] (.tup [dyD r, .int .i64 c]) := by
  have sp := rdsign_sim (hp.mono (show 1400 ≤ 50000 by decide))
  have sq := rdsign_sim (hq.mono (show 2700 ≤ 50000 by decide))
  by_cases q0 : q = 0
  · have e1 : qdiv p q P mode = 0 := by unfold qdiv; rw [if_pos q0]
    rw [if_pos q0] at hc
    rw [dsg_eq.2 q0] at sq
    refine sim_mk tab_ok Tryz.func154 rfl (by kernel_rfl) rfl ⟨Nat.le_of_ble_eq_true rfl, Nat.le_of_ble_eq_true rfl⟩ ?_
    repeat' ((conv => whnf); first
      | with_reducible refine CallX.data ?_
      | refine CallE.mk _ _ (sq) ?_
      | refine RegE.early (Cd.mk (show regOk _ _ _ _ = true by kernel_rfl) ?_)
      | refine Cd.mk rfl ?_
      | refine Br.t ?_
      | (refine TkE.fL ?_; (conv => whnf); fail_if_success (show forceL _ _))
      | refine Res.mk ?_
      | ((with_reducible refine EqE.idI ?_); first | refine EqE.mk _ (max_eq _ _) ?_ | refine EqE.mk _ (min_eq _ _) ?_)
      | ((with_reducible refine EqE.idS ?_); (refine EqE.fP ?_; (conv => whnf); fail_if_success (show forceL _ _)))
      | refine Cd.mk (Nat.le_of_ble_eq_true rfl) ?_)
    rw [← h, e1, ← hc, ← dyD_zero]; rfl
  by_cases p0 : p = 0
  · have e1 : qdiv p q P mode = 0 := by unfold qdiv; rw [if_neg q0, if_pos p0]
    rw [if_neg q0] at hc
    have sq0 : dsg q ≠ 0 := fun g => q0 (dsg_eq.1 g)
    rw [dsg_eq.2 p0] at sp
    refine sim_mk tab_ok Tryz.func154 rfl (by kernel_rfl) rfl ⟨Nat.le_of_ble_eq_true rfl, Nat.le_of_ble_eq_true rfl⟩ ?_
    repeat' ((conv => whnf); first
      | with_reducible refine CallX.data ?_
      | with_reducible refine Br.dec (fun h => absurd h (by omega)) (fun _ => ?_)
      | refine CallE.mk _ _ (sp) ?_
      | refine CallE.mk _ _ (sq) ?_
      | refine RegE.early (Cd.mk (show regOk _ _ _ _ = true by kernel_rfl) ?_)
      | refine Cd.mk rfl ?_
      | refine Br.t ?_
      | (refine TkE.fL ?_; (conv => whnf); fail_if_success (show forceL _ _))
      | refine Res.mk ?_
      | ((with_reducible refine EqE.idI ?_); first | refine EqE.mk _ (max_eq _ _) ?_ | refine EqE.mk _ (min_eq _ _) ?_)
      | ((with_reducible refine EqE.idS ?_); (refine EqE.fP ?_; (conv => whnf); fail_if_success (show forceL _ _)))
      | refine Cd.mk (Nat.le_of_ble_eq_true rfl) ?_)
    rw [← h, e1, ← hc, ← dyD_zero]; rfl
  have sp0 : dsg p ≠ 0 := fun g => p0 (dsg_eq.1 g)
  have sq0 : dsg q ≠ 0 := fun g => q0 (dsg_eq.1 g)
  rw [if_neg q0] at hc
  obtain ⟨x1, x2, x3⟩ := hp.parts
  obtain ⟨y1, y2, y3⟩ := hq.parts
  have nx := x1.nb
  have ny := y1.nb
  have lx := x1.len (k := 100) (by decide)
  have ly := y1.len (k := 200) (by decide)
  have hY0 : (dman q).natAbs ≠ 0 := fun e => q0 (dman_eq_zero.1 (by omega))
  obtain ⟨K, hK⟩ : ∃ K : Nat, max 1 (min P 4000) = (K : Int) := ⟨(max 1 (min P 4000)).toNat, by omega⟩
  obtain ⟨N, hN⟩ : ∃ N : Nat, max 0 ((K : Int) + 3 + nb (dman q).natAbs - nb (dman p).natAbs) = (N : Int) := ⟨(max 0 ((K : Int) + 3 + nb (dman q).natAbs - nb (dman p).natAbs)).toNat, by omega⟩
  have K3 : K ≤ 300 := by omega
  have N6 : N ≤ 5703 := by omega
  have hqe : dexp p - dexp q - N ≤ qexp p q P := by
    have d1 := dtop_ne p0
    have d2 := dtop_ne q0
    unfold qexp qtop
    split <;> omega
  have hqt : dexp p - dexp q - N ≤ qtop p q := by unfold qexp at hqe; omega
  have fin := stD_rto (n := N) (k := (K : Int)) mode p0 q0 (by omega) hqe
  rw [h] at fin
  have tp := dtop_bd hp
  have tq := dtop_bd hq
  have tt := qtop_bd hp hq
  have hst : Ht 9000 (stD p q N) := by
    have d2 := dtop_ne q0
    exact (stD_ht (h := 4500) p0 q0 hqt (by omega) (by omega)).mono (by decide)
  have s1 := rbits_at (k := (dman q).natAbs) (by omega) rfl
  have s2 := rbits_at (k := (dman p).natAbs) (by omega) rfl
  have lz : (ofN ((dman p).natAbs * 2 ^ N)).length ≤ 300 := by
    have h : Zt 9000 (dman p * 2 ^ N) := x1.shl (by omega)
    have h2 := h.len (k := 300) (by decide)
    rwa [Int.natAbs_mul, Int.natAbs_pow] at h2
  have s3 := rshl_at (k := (dman p).natAbs) (N : Int) (by omega) (by omega) (by rw [Int.toNat_natCast])
  have s4 := rdivn_at (k := (dman p).natAbs * 2 ^ N) (j := (dman q).natAbs) (by omega) (by omega) hY0
  have lq : (ofN ((dman p).natAbs * 2 ^ N / (dman q).natAbs)).length ≤ 300 := Nat.le_trans (ofN_len_le.2 (Nat.lt_of_le_of_lt (Nat.div_le_self _ _) (ofN_len_le.1 (Nat.le_refl _)))) lz
  have s5 := rshl_at (k := (dman p).natAbs * 2 ^ N / (dman q).natAbs) 1 (by omega) (by decide) rfl
  have lq2 : (ofN ((dman p).natAbs * 2 ^ N / (dman q).natAbs * 2 ^ Int.toNat 1)).length ≤ 301 := by
    refine ofN_len_le.2 ?_
    have h1 := ofN_len_le.1 lq
    show _ * 2 < Pw (300 + 1)
    rw [Pw_succ]; omega
  have hfl := ofN_len_zero (n := (dman p).natAbs * 2 ^ N % (dman q).natAbs)
  have e1 : ∀ s : Nat, s = stN (dman p).natAbs (dman q).natAbs N → (ofN s).length ≤ 302 → Sim Tryz.prog G0 false 132 [.agg [.bool (!(zneg (dman p) == zneg (dman q))), sl (ofN s)], .int .i64 (dexp p - dexp q - N - 1)] (dyD (stD p q N)) := fun s hs hl => by
    have z : zv (!(zneg (dman p) == zneg (dman q))) (ofN s) = (if (zneg (dman p) != zneg (dman q)) = true then -(stN (dman p).natAbs (dman q).natAbs N : Int) else stN (dman p).natAbs (dman q).natAbs N) := by
      unfold zv
      rw [nv_ofN, hs]; rfl
    have hz : Zt 300000 (zv (!(zneg (dman p) == zneg (dman q))) (ofN s)) := (Zt.of_len (k := 302) hl (by decide)).mono (show 9664 ≤ 300000 by decide)
    have hd : dof (zv (!(zneg (dman p) == zneg (dman q))) (ofN s)) (dexp p - dexp q - N - 1) = stD p q N := by rw [z]; rfl
    have d2 := dtop_ne q0
    have hx := rexact_sim (ZR.mk (!(zneg (dman p) == zneg (dman q))) (ofN s) (by omega)) hz (tz_of_ht (h := 9000) (by rw [hd]; exact hst) (by omega)) (e := dexp p - dexp q - N - 1) (by omega) (by omega)
    rwa [hd] at hx
  have s6 := rside_is mode
  have s7 := rTo_at (K : Int) (if mode = 1 then 1 else 0) hst fin
  by_cases hr : (dman p).natAbs * 2 ^ N % (dman q).natAbs = 0
  · have e2 := e1 _ (by unfold stN; rw [if_pos hr]; show _ * 2 = _; omega) (Nat.le_trans lq2 (by decide))
    have hr2 : (ofN ((dman p).natAbs * 2 ^ N % (dman q).natAbs)).length = 0 := hfl.2 hr
    generalize stD p q N = d at *
    generalize (dman p).natAbs * 2 ^ N / (dman q).natAbs = A at *
    refine sim_mk tab_ok Tryz.func154 rfl (by kernel_rfl) rfl ⟨Nat.le_of_ble_eq_true rfl, Nat.le_of_ble_eq_true rfl⟩ ?_
    repeat' ((conv => whnf); first
      | with_reducible refine CallX.data ?_
      | with_reducible refine Br.dec (fun h => absurd h (by omega)) (fun _ => ?_)
      | refine CallE.mk _ _ (sp) ?_
      | refine CallE.mk _ _ (sq) ?_
      | refine CallE.mk _ _ (s1) ?_
      | refine CallE.mk _ _ (s2) ?_
      | refine CallE.mk _ _ (s3) ?_
      | refine CallE.mk _ _ (s4) ?_
      | refine CallE.mk _ _ (s5) ?_
      | refine CallE.mk _ _ (e2) ?_
      | refine CallE.mk _ _ (s6) ?_
      | refine CallE.mk _ _ (s7) ?_
      | refine RegE.early (Cd.mk (show regOk _ _ _ _ = true by kernel_rfl) ?_)
      | refine Cd.mk rfl ?_
      | refine NthE.mk _ rfl ?_
      | (refine TkE.fL ?_; (conv => whnf); fail_if_success (show forceL _ _))
      | refine Res.mk ?_
      | ((with_reducible refine EqE.idW ?_); first | with_reducible refine EqE.mk _ (n_i64 _ (by omega)) ?_ | with_reducible refine EqE.mk _ (n_succ _ (by omega)) ?_ | refine EqE.mk _ (wrap_in (by omega) (by omega)) ?_)
      | ((with_reducible refine EqE.idI ?_); first | refine EqE.mk ((K : Nat) : Int) ((max_eq _ _).trans hK) ?_ | refine EqE.mk ((N : Nat) : Int) ((max_eq _ _).trans hN) ?_ | refine EqE.mk _ (min_eq _ _) ?_)
      | ((with_reducible refine EqE.idS ?_); (refine EqE.fP ?_; (conv => whnf); fail_if_success (show forceL _ _)))
      | refine Cd.mk (Nat.le_of_ble_eq_true rfl) ?_)
    rw [← hc]; rfl
  · have s8 := radd_at (k := (dman p).natAbs * 2 ^ N / (dman q).natAbs * 2 ^ Int.toNat 1) (by omega) rfl
    have e2 := e1 ((dman p).natAbs * 2 ^ N / (dman q).natAbs * 2 ^ Int.toNat 1 + 1) (by unfold stN; rw [if_neg hr]; show _ * 2 + 1 = _; omega) (by
      refine ofN_len_le.2 ?_
      have h1 := ofN_len_le.1 lq2
      show _ < Pw (301 + 1)
      rw [Pw_succ]; omega)
    have hr2 : (ofN ((dman p).natAbs * 2 ^ N % (dman q).natAbs)).length ≠ 0 := fun e => hr (hfl.1 e)
    generalize stD p q N = d at *
    generalize (dman p).natAbs * 2 ^ N / (dman q).natAbs = A at *
    refine sim_mk tab_ok Tryz.func154 rfl (by kernel_rfl) rfl ⟨Nat.le_of_ble_eq_true rfl, Nat.le_of_ble_eq_true rfl⟩ ?_
    repeat' ((conv => whnf); first
      | with_reducible refine CallX.data ?_
      | with_reducible refine Br.dec (fun h => absurd h (by omega)) (fun _ => ?_)
      | with_reducible refine Br.dec (fun _ => ?_) (fun h => absurd (by omega) h)
      | refine DsE.mk (limbs [1]) rfl ?_
      | refine CallE.mk _ _ (sp) ?_
      | refine CallE.mk _ _ (sq) ?_
      | refine CallE.mk _ _ (s1) ?_
      | refine CallE.mk _ _ (s2) ?_
      | refine CallE.mk _ _ (s3) ?_
      | refine CallE.mk _ _ (s4) ?_
      | refine CallE.mk _ _ (s5) ?_
      | refine CallE.mk _ _ (s8) ?_
      | refine CallE.mk _ _ (e2) ?_
      | refine CallE.mk _ _ (s6) ?_
      | refine CallE.mk _ _ (s7) ?_
      | refine RegE.early (Cd.mk (show regOk _ _ _ _ = true by kernel_rfl) ?_)
      | refine Cd.mk rfl ?_
      | refine NthE.mk _ rfl ?_
      | (refine TkE.fL ?_; (conv => whnf); fail_if_success (show forceL _ _))
      | refine Res.mk ?_
      | ((with_reducible refine EqE.idW ?_); first | with_reducible refine EqE.mk _ (n_i64 _ (by omega)) ?_ | with_reducible refine EqE.mk _ (n_succ _ (by omega)) ?_ | refine EqE.mk _ (wrap_in (by omega) (by omega)) ?_)
      | ((with_reducible refine EqE.idI ?_); first | refine EqE.mk ((K : Nat) : Int) ((max_eq _ _).trans hK) ?_ | refine EqE.mk ((N : Nat) : Int) ((max_eq _ _).trans hN) ?_ | refine EqE.mk _ (min_eq _ _) ?_)
      | ((with_reducible refine EqE.idS ?_); (refine EqE.fP ?_; (conv => whnf); fail_if_success (show forceL _ _)))
      | ((with_reducible refine EqE.idL ?_); refine EqE.mk (sl [1]) rfl ?_)
      | refine Cd.mk (Nat.le_of_ble_eq_true rfl) ?_)
    rw [← hc]; rfl
theorem rRoundReal_is {z r : Cq} (p : Int) (hz : Hc 9000 z) (h : iround z p = r) : Sim Tryz.prog G0 false 76 [cxD z, .int .i64 p] (cxD r) := by
  subst h
  obtain ⟨u, v⟩ := z
  have g1 := rTo_at p 0 hz.1 rfl
  have g2 := rTo_at p 1 hz.2 rfl
  refine sim_mk tab_ok Tryz.func76 rfl (by kernel_rfl) rfl ⟨Nat.le_of_ble_eq_true rfl, Nat.le_of_ble_eq_true rfl⟩ ?_
  repeat' ((conv => whnf); first
    | refine CallE.mk _ _ (g1) ?_
    | refine CallE.mk _ _ (g2) ?_
    | refine RegE.early (Cd.mk (show regOk _ _ _ _ = true by kernel_rfl) ?_)
    | refine Cd.mk rfl ?_
    | (refine TkE.fL ?_; (conv => whnf); fail_if_success (show forceL _ _))
    | refine Res.mk ?_
    | ((with_reducible refine EqE.idS ?_); (refine EqE.fP ?_; (conv => whnf); fail_if_success (show forceL _ _)))
    | refine Cd.mk (Nat.le_of_ble_eq_true rfl) ?_)
  rfl
theorem rInv_is {z r : Cq} {c : Int} (p : Int) (ho : Ord z) (hz : Hc 2700 z) (hp : p ≤ 300) (h : iinvE z p = (r, c)) : Sim Tryz.prog G0 false 72 [cxD z, .int .i64 p] (.tup [cxD r, .int .i64 c]) := by
  have one : Sim Tryz.prog G0 false 24 [.int .i64 1] (dyD 1) := rofd_sim 1 (by decide) (by decide)
  obtain ⟨u, v⟩ := z
  have su := rdsign_sim (hz.1.mono (show 2700 ≤ 50000 by decide))
  have sv := rdsign_sim (hz.2.mono (show 2700 ≤ 50000 by decide))
  dsimp only at su sv
  unfold iinvE at h
  by_cases c0 : ihas (u, v) 0
  · rw [if_pos c0] at h
    cases h
    have h1 : dsg u ≤ 0 := dsg_le.2 c0.1
    have h2 : dsg v ≥ 0 := dsg_ge.2 c0.2
    refine sim_mk tab_ok Tryz.func72 rfl (by kernel_rfl) rfl ⟨Nat.le_of_ble_eq_true rfl, Nat.le_of_ble_eq_true rfl⟩ ?_
    repeat' ((conv => whnf); first
      | with_reducible refine CallX.data ?_
      | with_reducible refine Br.dec (fun _ => ?_) (fun h => absurd (by omega) h)
      | refine CallE.mk _ _ (su) ?_
      | refine CallE.mk _ _ (sv) ?_
      | refine RegE.early (Cd.mk (show regOk _ _ _ _ = true by kernel_rfl) ?_)
      | refine Cd.mk rfl ?_
      | refine Br.t ?_
      | (refine TkE.fL ?_; (conv => whnf); fail_if_success (show forceL _ _))
      | refine Res.mk ?_
      | ((with_reducible refine EqE.idS ?_); (refine EqE.fP ?_; (conv => whnf); fail_if_success (show forceL _ _)))
      | refine Cd.mk (Nat.le_of_ble_eq_true rfl) ?_)
    show _ = D.tup [D.agg [.bool false, sl [], .int .i64 0, .bool false, sl [], .int .i64 0], _]
    rw [cxD_zero]; rfl
  · rw [if_neg c0] at h
    cases h
    have hs := iinv_sign p ho c0
    have d1 := rDiv_is (p := 1) (q := v) (c := 0) p 0 (Ht.one.mono (by decide)) hz.2 hp rfl (if_neg (by rcases hs with k | k <;> grind))
    have d2 := rDiv_is (p := 1) (q := u) (c := 0) p 1 (Ht.one.mono (by decide)) hz.1 hp rfl (if_neg (by rcases hs with k | k <;> grind))
    by_cases h1 : dsg u ≤ 0
    · have h2 : ¬ dsg v ≥ 0 := fun g => c0 ⟨dsg_le.1 h1, dsg_ge.1 g⟩
      refine sim_mk tab_ok Tryz.func72 rfl (by kernel_rfl) rfl ⟨Nat.le_of_ble_eq_true rfl, Nat.le_of_ble_eq_true rfl⟩ ?_
      repeat' ((conv => whnf); first
        | with_reducible refine CallX.data ?_
        | with_reducible refine Br.dec (fun _ => ?_) (fun h => absurd (by omega) h)
        | with_reducible refine Br.dec (fun h => absurd h (by omega)) (fun _ => ?_)
        | refine CallE.mk _ _ (su) ?_
        | refine CallE.mk _ _ (sv) ?_
        | refine CallE.mk _ _ (one) ?_
        | refine CallE.mk _ _ (d1) ?_
        | refine CallE.mk _ _ (d2) ?_
        | refine RegE.early (Cd.mk (show regOk _ _ _ _ = true by kernel_rfl) ?_)
        | refine Cd.mk rfl ?_
        | refine Br.t ?_
        | refine NthE.mk _ rfl ?_
        | (refine TkE.fL ?_; (conv => whnf); fail_if_success (show forceL _ _))
        | refine Res.mk ?_
        | ((with_reducible refine EqE.idS ?_); (refine EqE.fP ?_; (conv => whnf); fail_if_success (show forceL _ _)))
        | refine Cd.mk (Nat.le_of_ble_eq_true rfl) ?_)
      rfl
    · refine sim_mk tab_ok Tryz.func72 rfl (by kernel_rfl) rfl ⟨Nat.le_of_ble_eq_true rfl, Nat.le_of_ble_eq_true rfl⟩ ?_
      repeat' ((conv => whnf); first
        | with_reducible refine CallX.data ?_
        | with_reducible refine Br.dec (fun h => absurd h (by omega)) (fun _ => ?_)
        | refine CallE.mk _ _ (su) ?_
        | refine CallE.mk _ _ (one) ?_
        | refine CallE.mk _ _ (d1) ?_
        | refine CallE.mk _ _ (d2) ?_
        | refine RegE.early (Cd.mk (show regOk _ _ _ _ = true by kernel_rfl) ?_)
        | refine Cd.mk rfl ?_
        | refine Br.f ?_
        | refine NthE.mk _ rfl ?_
        | (refine TkE.fL ?_; (conv => whnf); fail_if_success (show forceL _ _))
        | refine Res.mk ?_
        | ((with_reducible refine EqE.idS ?_); (refine EqE.fP ?_; (conv => whnf); fail_if_success (show forceL _ _)))
        | refine Cd.mk (Nat.le_of_ble_eq_true rfl) ?_)
      rfl
theorem rDivReal_is {z w r : Cq} {c : Int} (p : Int) (ho : Ord w) (hz : Hc 1400 z) (hw : Hc 2700 w) (hp : p ≤ 300) (h : idivE z w p = (r, c)) : Sim Tryz.prog G0 false 74 [cxD z, cxD w, .int .i64 p] (.tup [cxD r, .int .i64 c]) := by
  unfold idivE at h
  by_cases c0 : ihas w 0
  · rw [if_pos c0] at h; cases h
    have i := rInv_is (r := (0, 0)) (c := 11) p ho hw hp (by unfold iinvE; rw [if_pos c0])
    obtain ⟨_, _⟩ := z
    obtain ⟨_, _⟩ := w
    refine sim_mk tab_ok Tryz.func74 rfl (by kernel_rfl) rfl ⟨Nat.le_of_ble_eq_true rfl, Nat.le_of_ble_eq_true rfl⟩ ?_
    repeat' ((conv => whnf); first
      | with_reducible refine CallX.data ?_
      | refine CallE.mk _ _ (i) ?_
      | refine RegE.early (Cd.mk (show regOk _ _ _ _ = true by kernel_rfl) ?_)
      | refine Cd.mk rfl ?_
      | refine Br.t ?_
      | refine NthE.mk _ rfl ?_
      | (refine TkE.fL ?_; (conv => whnf); fail_if_success (show forceL _ _))
      | refine Res.mk ?_
      | ((with_reducible refine EqE.idS ?_); (refine EqE.fP ?_; (conv => whnf); fail_if_success (show forceL _ _)))
      | refine Cd.mk (Nat.le_of_ble_eq_true rfl) ?_)
    show _ = D.tup [D.agg [.bool false, sl [], .int .i64 0, .bool false, sl [], .int .i64 0], _]
    rw [cxD_zero]; rfl
  · rw [if_neg c0] at h; cases h
    have i := rInv_is (r := iinv w p) (c := 0) p ho hw hp (by unfold iinvE; rw [if_neg c0])
    have hi : Hc 3400 (iinv w p) := (hw.iinv (K := 300) (by omega)).mono (by decide)
    have m := rMulReal_is (hz.mono (by decide)) (hi.mono (by decide)) rfl
    have hm : Hc 4800 (imul z (iinv w p)) := hz.imul hi (by decide)
    generalize imul z (iinv w p) = M at *
    have d := rRoundReal_is p (hm.mono (by decide)) rfl
    generalize iinv w p = I at *
    obtain ⟨_, _⟩ := z
    obtain ⟨_, _⟩ := w
    obtain ⟨_, _⟩ := I
    obtain ⟨_, _⟩ := M
    refine sim_mk tab_ok Tryz.func74 rfl (by kernel_rfl) rfl ⟨Nat.le_of_ble_eq_true rfl, Nat.le_of_ble_eq_true rfl⟩ ?_
    repeat' ((conv => whnf); first
      | with_reducible refine CallX.data ?_
      | refine CallE.mk _ _ (i) ?_
      | refine CallE.mk _ _ (m) ?_
      | refine CallE.mk _ _ (d) ?_
      | refine RegE.early (Cd.mk (show regOk _ _ _ _ = true by kernel_rfl) ?_)
      | refine Cd.mk rfl ?_
      | refine Br.f ?_
      | refine NthE.mk _ rfl ?_
      | (refine TkE.fL ?_; (conv => whnf); fail_if_success (show forceL _ _))
      | refine Res.mk ?_
      | ((with_reducible refine EqE.idS ?_); (refine EqE.fP ?_; (conv => whnf); fail_if_success (show forceL _ _)))
      | refine Cd.mk (Nat.le_of_ble_eq_true rfl) ?_)
    rfl
end Go.Ev.Ar
