/- Contracts of the given functions, on data. Conditions stand in each theorem. -/
import Derived.Test.YtmgbegcamhkblaaDoorArDyL
import Derived.Test.YtmgbegcamhkblaaDoorArRefG
import Derived.Test.YtmgbegcamhkblaaDoorEvRo
set_option linter.unusedSimpArgs false
set_option linter.unusedVariables false
namespace Go.Ev.Ar
open Go Go.Ev Go.Proofs

theorem roheld_sim (e : Int) : Sim Tryd.prog G0 true 137 [.int .i64 e] (.int .i64 (min (max e (-20000)) 20000)) := by
  refine sim_mk tab_ok Tryd.func137 rfl (by kernel_rfl) rfl (Nat.le_of_ble_eq_true rfl) ?_
  repeat' ((conv => whnf); first
    | refine Cd.mk (show regOk _ _ _ _ = true by kernel_rfl) ?_
    | refine Cd.mk rfl ?_
    | refine Br.t ?_
    | refine Br.f ?_
    | with_reducible refine Br.eqd ?_
    | with_reducible refine Br.eqb ?_
    | with_reducible refine Br.dec (fun _ => ?_) (fun _ => ?_)
    | with_reducible refine Br.ndec (fun _ => ?_) (fun _ => ?_)
    | refine Br.mk (fun _ => ?_) (fun _ => ?_)
    | refine NthE.mk _ rfl ?_
    | refine And.intro (fun _ => ?_) ?_
    | refine TkE.mk _ rfl rfl ?_
    | refine Res.mk ?_
    | refine DsE.mk [] rfl ?_
    | refine LoopEnd.go _ _ ⟨.inl rfl, rfl, rfl, by first | rfl | (repeat first | exact all_nil _ | refine all_la _ _ _ _ _ ?_)⟩ ?_
    | ((with_reducible refine EqE.idW ?_); first  | with_reducible refine EqE.mk _ (n_i64 _ (by omega)) ?_ | with_reducible refine EqE.mk _ (n_succ _ (by omega)) ?_ | refine EqE.mk _ (wrap_in (by omega) (by omega)) ?_ | refine EqE.mk _ rfl ?_)
    | ((with_reducible refine EqE.idM ?_); first  | refine EqE.mk _ rfl ?_)
    | ((with_reducible refine EqE.idI ?_); first  | refine EqE.mk _ (max_eq _ _) ?_ | refine EqE.mk _ (min_eq _ _) ?_)
    | ((with_reducible refine EqE.idS ?_); first  | refine EqE.mk _ rfl ?_)
    | ((with_reducible refine EqE.idL ?_); first  | refine EqE.mk _ (sl_own _ _ _ _ (by omega) (by omega) rfl) ?_ | refine EqE.mk _ rfl ?_)
    | refine EqE.mk _ rfl ?_
    | refine Cd.mk (Nat.le_of_ble_eq_true rfl) ?_
    | refine Cd.mk ⟨rfl, rfl⟩ ?_
    | refine Cd.mk (by first | omega | (simp only [length_limbs, length_la]; omega)) ?_
    | refine Cd.mk ?_ ?_)
  rfl
theorem roHeld_sim (e : Int) : Sim Tryd.prog G0 true 181 [.int .i64 e] (.int .i64 (min (max e 1) 4000)) := by
  refine sim_mk tab_ok Tryd.func181 rfl (by kernel_rfl) rfl (Nat.le_of_ble_eq_true rfl) ?_
  repeat' ((conv => whnf); first
    | refine Cd.mk (show regOk _ _ _ _ = true by kernel_rfl) ?_
    | refine Cd.mk rfl ?_
    | refine Br.t ?_
    | refine Br.f ?_
    | with_reducible refine Br.eqd ?_
    | with_reducible refine Br.eqb ?_
    | with_reducible refine Br.dec (fun _ => ?_) (fun _ => ?_)
    | with_reducible refine Br.ndec (fun _ => ?_) (fun _ => ?_)
    | refine Br.mk (fun _ => ?_) (fun _ => ?_)
    | refine NthE.mk _ rfl ?_
    | refine And.intro (fun _ => ?_) ?_
    | refine TkE.mk _ rfl rfl ?_
    | refine Res.mk ?_
    | refine DsE.mk [] rfl ?_
    | refine LoopEnd.go _ _ ⟨.inl rfl, rfl, rfl, by first | rfl | (repeat first | exact all_nil _ | refine all_la _ _ _ _ _ ?_)⟩ ?_
    | ((with_reducible refine EqE.idW ?_); first  | with_reducible refine EqE.mk _ (n_i64 _ (by omega)) ?_ | with_reducible refine EqE.mk _ (n_succ _ (by omega)) ?_ | refine EqE.mk _ (wrap_in (by omega) (by omega)) ?_ | refine EqE.mk _ rfl ?_)
    | ((with_reducible refine EqE.idM ?_); first  | refine EqE.mk _ rfl ?_)
    | ((with_reducible refine EqE.idI ?_); first  | refine EqE.mk _ (max_eq _ _) ?_ | refine EqE.mk _ (min_eq _ _) ?_)
    | ((with_reducible refine EqE.idS ?_); first  | refine EqE.mk _ rfl ?_)
    | ((with_reducible refine EqE.idL ?_); first  | refine EqE.mk _ (sl_own _ _ _ _ (by omega) (by omega) rfl) ?_ | refine EqE.mk _ rfl ?_)
    | refine EqE.mk _ rfl ?_
    | refine Cd.mk (Nat.le_of_ble_eq_true rfl) ?_
    | refine Cd.mk ⟨rfl, rfl⟩ ?_
    | refine Cd.mk (by first | omega | (simp only [length_limbs, length_la]; omega)) ?_
    | refine Cd.mk ?_ ?_)
  rfl
theorem zv_odd (b : Bool) (l : List UInt32) : zv b l % 2 = 1 ↔ (l.getD 0 0).toNat % 2 = 1 := by
  have h := nv_getD l 0
  rw [Pw_zero, Nat.div_one] at h
  unfold zv; split <;> omega
theorem roup_sim {x y : D} {f r : Int} (s : Nat) (mode : Int) (hx : ZR x f) (hy : ZR y r) (hf : Zt 4200000 f) (hr : Zt 4200000 r) (hs : s ≤ 4200000) : Sim Tryd.prog G0 true 180 [x, y, .int .i64 s, .int .i64 mode] (.bool (upB f r s mode)) := by
  have z1 : Zt 4200001 (r * 2 ^ Int.toNat 1) := hr.shl (by decide)
  have z2 : Zt 4200100 (1 * 2 ^ (s : Int).toNat) := (Zt.small (n := 1) (h := 64) (by decide) (by decide)).shl (by omega)
  have z3 := z1.sub z2 (c := 4200101) (by decide)
  have o1 : ZR (zD 1) 1 := (cz (by decide)).1
  obtain ⟨b, l, hl⟩ := hx
  obtain ⟨c, k, hk⟩ := hy
  refine sim_mk tab_ok Tryd.func180 rfl (by kernel_rfl) rfl (Nat.le_of_ble_eq_true rfl) ?_
  by_cases m0 : mode = 0
  · repeat' ((conv => whnf); first
      | with_reducible refine Br.dec (fun _ => ?_) (fun h => absurd (by omega) h)
      | refine Cd.mk (show regOk _ _ _ _ = true by kernel_rfl) ?_
      | refine Cd.mk rfl ?_
      | refine Br.t ?_
      | refine Br.f ?_
      | with_reducible refine Br.eqd ?_
      | with_reducible refine Br.eqb ?_
      | with_reducible refine Br.dec (fun _ => ?_) (fun _ => ?_)
      | with_reducible refine Br.ndec (fun _ => ?_) (fun _ => ?_)
      | refine Br.mk (fun _ => ?_) (fun _ => ?_)
      | refine NthE.mk _ rfl ?_
      | refine And.intro (fun _ => ?_) ?_
      | refine TkE.mk _ rfl rfl ?_
      | refine Res.mk ?_
      | refine DsE.mk [] rfl ?_
      | refine LoopEnd.go _ _ ⟨.inl rfl, rfl, rfl, by first | rfl | (repeat first | exact all_nil _ | refine all_la _ _ _ _ _ ?_)⟩ ?_
      | ((with_reducible refine EqE.idW ?_); first  | with_reducible refine EqE.mk _ (n_i64 _ (by omega)) ?_ | with_reducible refine EqE.mk _ (n_succ _ (by omega)) ?_ | refine EqE.mk _ (wrap_in (by omega) (by omega)) ?_ | refine EqE.mk _ rfl ?_)
      | ((with_reducible refine EqE.idM ?_); first  | refine EqE.mk _ rfl ?_)
      | ((with_reducible refine EqE.idI ?_); first  | refine EqE.mk _ (max_eq _ _) ?_ | refine EqE.mk _ (min_eq _ _) ?_)
      | ((with_reducible refine EqE.idS ?_); first  | refine EqE.mk _ rfl ?_)
      | ((with_reducible refine EqE.idL ?_); first  | refine EqE.mk _ (sl_own _ _ _ _ (by omega) (by omega) rfl) ?_ | refine EqE.mk _ rfl ?_)
      | refine EqE.mk _ rfl ?_
      | refine Cd.mk (Nat.le_of_ble_eq_true rfl) ?_
      | refine Cd.mk ⟨rfl, rfl⟩ ?_
      | refine Cd.mk (by first | omega | (simp only [length_limbs, length_la]; omega)) ?_
      | refine Cd.mk ?_ ?_)
    unfold upB; rw [if_pos m0]; rfl
  by_cases m1 : mode = 1
  · repeat' ((conv => whnf); first
      | with_reducible refine Br.dec (fun h => absurd h (by omega)) (fun _ => ?_)
      | with_reducible refine Br.dec (fun _ => ?_) (fun h => absurd (by omega) h)
      | refine CallE.mk _ _ (zsign_sim (.mk c k hk)) ?_
      | refine Cd.mk (show regOk _ _ _ _ = true by kernel_rfl) ?_
      | refine Cd.mk rfl ?_
      | refine Br.t ?_
      | refine Br.f ?_
      | with_reducible refine Br.eqd ?_
      | with_reducible refine Br.eqb ?_
      | with_reducible refine Br.dec (fun _ => ?_) (fun _ => ?_)
      | with_reducible refine Br.ndec (fun _ => ?_) (fun _ => ?_)
      | refine Br.mk (fun _ => ?_) (fun _ => ?_)
      | refine NthE.mk _ rfl ?_
      | refine And.intro (fun _ => ?_) ?_
      | refine TkE.mk _ rfl rfl ?_
      | refine Res.mk ?_
      | refine DsE.mk [] rfl ?_
      | refine LoopEnd.go _ _ ⟨.inl rfl, rfl, rfl, by first | rfl | (repeat first | exact all_nil _ | refine all_la _ _ _ _ _ ?_)⟩ ?_
      | ((with_reducible refine EqE.idW ?_); first  | with_reducible refine EqE.mk _ (n_i64 _ (by omega)) ?_ | with_reducible refine EqE.mk _ (n_succ _ (by omega)) ?_ | refine EqE.mk _ (wrap_in (by omega) (by omega)) ?_ | refine EqE.mk _ rfl ?_)
      | ((with_reducible refine EqE.idM ?_); first  | refine EqE.mk _ rfl ?_)
      | ((with_reducible refine EqE.idI ?_); first  | refine EqE.mk _ (max_eq _ _) ?_ | refine EqE.mk _ (min_eq _ _) ?_)
      | ((with_reducible refine EqE.idS ?_); first  | refine EqE.mk _ rfl ?_)
      | ((with_reducible refine EqE.idL ?_); first  | refine EqE.mk _ (sl_own _ _ _ _ (by omega) (by omega) rfl) ?_ | refine EqE.mk _ rfl ?_)
      | refine EqE.mk _ rfl ?_
      | refine Cd.mk (Nat.le_of_ble_eq_true rfl) ?_
      | refine Cd.mk ⟨rfl, rfl⟩ ?_
      | refine Cd.mk (by first | omega | (simp only [length_limbs, length_la]; omega)) ?_
      | refine Cd.mk ?_ ?_)
    unfold upB; rw [if_neg m0, if_pos m1]; rfl
  unfold upB
  rw [if_neg m0, if_neg m1]
  have hX : zv c k * 2 - 2 ^ s = zv c k * 2 ^ Int.toNat 1 - 1 * 2 ^ (s : Int).toNat := by
    rw [Int.toNat_natCast, Int.one_mul]; rfl
  have hx0 := u32_lt (l.getD (Int.toNat 0) 0)
  have hodd := zv_odd b l
  rw [hX]
  repeat' ((conv => whnf); first
    | with_reducible refine Br.dec (fun h => absurd h (by omega)) (fun _ => ?_)
    | refine CallE.mk _ _ (zup_sim 1 (.mk c k hk) (by decide)) ?_
    | refine CallE.mk _ _ (zof_sim 1 (by decide) (by decide)) ?_
    | refine CallE.mk _ _ (zup_sim _ o1 (by omega)) ?_
    | refine CallE.mk _ _ (zcmp_sim (.of (z1.mono (by decide))) (.of (z2.mono (by decide))) (z3.mono (by decide))) ?_
    | refine Cd.mk (show regOk _ _ _ _ = true by kernel_rfl) ?_
    | refine Cd.mk rfl ?_
    | refine Br.t ?_
    | refine Br.f ?_
    | with_reducible refine Br.dec (fun _ => ?_) (fun _ => ?_)
    | with_reducible refine Br.ndec (fun _ => ?_) (fun _ => ?_)
    | refine Br.mk (fun _ => ?_) (fun _ => ?_)
    | refine NthE.mk _ (limbs_dropN _ _ (by omega)) ?_
    | refine NthE.mk _ (limbs_drop _ _ (by omega)) ?_
    | refine NthE.mk _ (la_get _ _ _ (by first | exact own_ix _ | exact own_ixI _ | rfl) (by first | omega | (simp only [List.length_set]; omega))) ?_
    | refine NthE.mk _ rfl ?_
    | refine And.intro (fun _ => ?_) ?_
    | refine TkE.mk _ rfl rfl ?_
    | refine Res.mk ?_
    | refine DsE.mk (limbs _) rfl ?_
    | refine DsE.mk [] rfl ?_
    | refine LoopEnd.go _ _ ⟨.inl rfl, rfl, rfl, by first | rfl | (repeat first | exact all_nil _ | refine all_la _ _ _ _ _ ?_)⟩ ?_
    | ((with_reducible refine EqE.idW ?_); first  | with_reducible refine EqE.mk _ (wrap_u64_u32 _) ?_ | with_reducible refine EqE.mk _ (n_add _ _ (by omega)) ?_ | with_reducible refine EqE.mk _ (n_shl32 _ (by omega)) ?_ | with_reducible refine EqE.mk _ (n_shl _ _ (by omega) (by omega)) ?_ | with_reducible refine EqE.mk _ (n_mul _ _ (by omega)) ?_ | with_reducible refine EqE.mk _ (n_sub _ _ (by omega) (by omega)) ?_ | with_reducible refine EqE.mk _ (n_and1 _ (by omega)) ?_ | with_reducible refine EqE.mk _ (n_andm _ (by omega)) ?_ | with_reducible refine EqE.mk _ (n_and1_32 _ (by omega)) ?_ | with_reducible refine EqE.mk _ (n_and _ _ (by omega) (by omega)) ?_ | with_reducible refine EqE.mk _ (n_or _ _ (by omega) (by omega)) ?_ | refine EqE.mk _ (n_quo _ 32 (by omega)) ?_ | with_reducible refine EqE.mk _ (n_u32 _) ?_ | with_reducible refine EqE.mk _ (n_u8 _) ?_ | with_reducible refine EqE.mk _ (n_u64 _ (by omega)) ?_ | with_reducible refine EqE.mk _ (n_i64 _ (by omega)) ?_ | with_reducible refine EqE.mk _ (n_succ _ (by omega)) ?_ | with_reducible refine EqE.mk _ (n_iadd _ _ (by omega)) ?_ | with_reducible refine EqE.mk _ (wrap_u64 (by omega) (by omega)) ?_ | with_reducible refine EqE.mk _ (wrap_u32 _) ?_ | with_reducible refine EqE.mk _ (wrap_in (by omega) (by omega)) ?_ | refine EqE.mk _ rfl ?_)
    | ((with_reducible refine EqE.idF ?_); first  | with_reducible refine EqE.mk _ (n_shr63 _) ?_ | with_reducible refine EqE.mk _ (n_shrv _ _ (by omega)) ?_ | with_reducible refine EqE.mk _ (n_shrv32 _ _ (by omega)) ?_ | with_reducible refine EqE.mk _ (n_shr1_32 _) ?_ | refine EqE.mk _ (n_shr _ 4294967296 _ _ rfl) ?_ | refine EqE.mk _ (n_shr _ 65536 _ _ rfl) ?_ | refine EqE.mk _ (n_shr _ 256 _ _ rfl) ?_ | refine EqE.mk _ (n_shr _ 134217728 _ _ rfl) ?_ | refine EqE.mk _ (n_shr _ 2 _ _ rfl) ?_ | refine EqE.mk _ (n_shr _ 16 _ _ rfl) ?_ | refine EqE.mk _ rfl ?_)
    | ((with_reducible refine EqE.idM ?_); first  | refine EqE.mk _ (n_rem _ 32) ?_ | refine EqE.mk _ (n_rem _ _) ?_ | refine EqE.mk _ rfl ?_)
    | ((with_reducible refine EqE.idI ?_); first  | refine EqE.mk _ (max0 _) ?_ | with_reducible refine EqE.mk _ (max_nat _ _) ?_ | refine EqE.mk _ (max_eq _ _) ?_ | refine EqE.mk _ (min_eq _ _) ?_)
    | ((with_reducible refine EqE.idS ?_); first  | refine EqE.mk _ (la_setN _ _ _ _ (by first | exact own_ix _ | exact own_ixI _ | rfl) (by first | omega | (simp only [List.length_set]; omega)) (by omega)) ?_ | refine EqE.mk _ (la_set _ _ _ _ (by first | exact own_ix _ | exact own_ixI _ | rfl) (by omega) (by omega) (by omega)) ?_ | refine EqE.mk _ rfl ?_)
    | ((with_reducible refine EqE.idA ?_); first | refine EqE.mk _ (la_app0 _) ?_ | refine EqE.mk _ (la_app _ _) ?_ | refine EqE.mk _ rfl ?_)
    | ((with_reducible refine EqE.idR ?_); first | refine EqE.mk _ (la_rep _) ?_ | refine EqE.mk _ rfl ?_)
    | ((with_reducible refine EqE.idL ?_); first  | refine EqE.mk _ (sl_own _ _ _ _ (by omega) (by omega) rfl) ?_ | refine EqE.mk _ (sl_sliceN _ _ (by omega)) ?_ | refine EqE.mk _ (sl_slice _ _ _ (by omega) (by omega) (by omega)) ?_ | refine EqE.mk _ rfl ?_)
    | refine EqE.mk _ rfl ?_
    | refine Cd.mk (Nat.le_of_ble_eq_true rfl) ?_
    | refine Cd.mk ⟨rfl, rfl⟩ ?_
    | refine Cd.mk (limbs_one _) ?_
    | refine Cd.mk (by (try dsimp only); (try simp only [length_limbs, length_la, Nat.mul_one, List.length_set, List.length_take, List.length_drop, List.length_replicate]); (try omega); done) ?_
    | refine Cd.mk ?_ ?_)
  all_goals show D.bool _ = D.bool _
  · rename_i h1 h2
    rw [decide_eq_true h2]; rfl
  · rename_i h1 h2 h3
    rw [decide_eq_false h2, decide_eq_true h3, Bool.false_or, Bool.true_and]
    exact congrArg D.bool (decide_eq_decide.2 (by rw [hodd]; show (l.getD 0 0).toNat % 2 = 1 ↔ (((l.getD 0 0).toNat % 2 : Nat) : Int) = 1; omega))
  · rename_i h1 h2 h3
    rw [decide_eq_false h2, decide_eq_false h3]; rfl
  · rename_i h1 h2
    rw [decide_eq_true h2]; rfl
  all_goals
    rename_i h1 h2 h3
    have hl0 : ¬ (l.getD 0 0).toNat % 2 = 1 := by rw [getD_big (by omega)]; decide
    rw [decide_eq_false h2, decide_eq_false (fun h => hl0 (hodd.1 h)), Bool.and_false]; rfl
theorem ro_floor {q : Dyadic} {a : Nat} {s : Nat} (hq : Zt a (dman q)) (hs : s ≤ 3100000) (ha : a ≤ 1000000) : Zt a (dman q / 2 ^ s) ∧ Zt 4200000 (dman q / 2 ^ s * 2 ^ s) ∧ Zt 4200000 (dman q - dman q / 2 ^ s * 2 ^ s) := by
  have h1 := zt_floor hq s
  have h2 := h1.shl (k := s) (Nat.le_refl _)
  have h3 := floor_rest (dman q) s
  refine ⟨h1, h2.mono (by omega), ?_⟩
  refine Zt.mono (a := s) ?_ (by omega)
  rw [Zt.iff]
  have h4 : ((dman q - dman q / 2 ^ s * 2 ^ s).natAbs : Int) < ((2 ^ s : Nat) : Int) := by rw [Int.natCast_pow]; show _ < (2 : Int) ^ s; omega
  exact_mod_cast h4
theorem rogrid_sim {x : D} {q : Dyadic} (e mode : Int) (hx : DyR x q) (hq : Ht 500000 q) (h1 : -1000000 ≤ e) (h2 : e ≤ 1000000) : Sim Tryd.prog G0 false 134 [x, .int .i64 e, .int .i64 mode] (dyD (grd q e mode)) := by
  have kx := hx
  obtain ⟨hp1, hp2, hp3⟩ := hq.parts
  obtain ⟨b, l, f, hl, g1, g2, _⟩ := hx
  generalize dof (zv b l) f = q at *
  refine sim_mk tab_ok Tryd.func134 rfl (by kernel_rfl) rfl (Nat.le_of_ble_eq_true rfl) ?_
  by_cases h : e ≤ dexp q
  · rw [grd_ge h]
    repeat' ((conv => whnf); first
      | with_reducible refine Br.dec (fun _ => ?_) (fun h => absurd (by omega) h)
      | refine CallE.mk _ _ (dnorm_sim kx) ?_
      | refine Cd.mk (show regOk _ _ _ _ = true by kernel_rfl) ?_
      | refine Cd.mk rfl ?_
      | refine Br.t ?_
      | refine Br.f ?_
      | with_reducible refine Br.eqd ?_
      | with_reducible refine Br.eqb ?_
      | with_reducible refine Br.dec (fun _ => ?_) (fun _ => ?_)
      | with_reducible refine Br.ndec (fun _ => ?_) (fun _ => ?_)
      | refine Br.mk (fun _ => ?_) (fun _ => ?_)
      | refine NthE.mk _ rfl ?_
      | refine And.intro (fun _ => ?_) ?_
      | refine TkE.mk _ rfl rfl ?_
      | refine Res.mk ?_
      | refine DsE.mk [] rfl ?_
      | refine LoopEnd.go _ _ ⟨.inl rfl, rfl, rfl, by first | rfl | (repeat first | exact all_nil _ | refine all_la _ _ _ _ _ ?_)⟩ ?_
      | ((with_reducible refine EqE.idW ?_); first  | with_reducible refine EqE.mk _ (n_i64 _ (by omega)) ?_ | with_reducible refine EqE.mk _ (n_succ _ (by omega)) ?_ | refine EqE.mk _ (wrap_in (by omega) (by omega)) ?_ | refine EqE.mk _ rfl ?_)
      | ((with_reducible refine EqE.idM ?_); first  | refine EqE.mk _ rfl ?_)
      | ((with_reducible refine EqE.idI ?_); first  | refine EqE.mk _ (max_eq _ _) ?_ | refine EqE.mk _ (min_eq _ _) ?_)
      | ((with_reducible refine EqE.idS ?_); first  | refine EqE.mk _ rfl ?_)
      | ((with_reducible refine EqE.idL ?_); first  | refine EqE.mk _ (sl_own _ _ _ _ (by omega) (by omega) rfl) ?_ | refine EqE.mk _ rfl ?_)
      | refine EqE.mk _ rfl ?_
      | refine Cd.mk (Nat.le_of_ble_eq_true rfl) ?_
      | refine Cd.mk ⟨rfl, rfl⟩ ?_
      | refine Cd.mk (by first | omega | (simp only [length_limbs, length_la]; omega)) ?_
      | refine Cd.mk ?_ ?_)
    rfl
  unfold grd
  rw [if_neg h]
  have hs : e - dexp q = (((e - dexp q).toNat : Nat) : Int) := by omega
  have hs2 : (e - dexp q).toNat ≤ 3100000 := by omega
  obtain ⟨z1, z2, z3⟩ := ro_floor hp1 hs2 (by decide)
  generalize hS : (e - dexp q).toNat = S at *
  have z0 := hp1.mono (show 2 * 500000 ≤ 134217728 by decide)
  have z4 : Zt 1000001 (dman q / 2 ^ S + 1) := z1.add (Zt.small (n := 1) (h := 64) (by decide) (by decide)) (by decide)
  repeat' ((conv => whnf); first
    | with_reducible refine Br.dec (fun h => absurd h (by omega)) (fun _ => ?_)
    | refine CallE.mk _ _ (dnorm_sim kx) ?_
    | refine CallE.mk _ _ (zdown_sim _ (.of (n := dman q) z0) (by omega)) ?_
    | refine CallE.mk _ _ (zup_sim _ (.of (z1.mono (by decide))) (by omega)) ?_
    | refine CallE.mk _ _ (zsub_sim (.of (n := dman q) z0) (.of (z2.mono (by decide)))) ?_
    | refine CallE.mk _ _ (roup_sim S _ (.of (z1.mono (by decide))) (.of (z3.mono (by decide))) (z1.mono (by decide)) z3 (by omega)) ?_
    | refine CallE.mk _ _ (zof_sim 1 (by decide) (by decide)) ?_
    | refine CallE.mk _ _ (zadd_sim (.of (z1.mono (by decide))) (cz (n := 1) (by decide)).1) ?_
    | refine CallE.mk _ _ (draw_sim (.of (z4.mono (by decide))) (z4.mono (by decide)) (by omega) (by omega)) ?_
    | refine CallE.mk _ _ (draw_sim (.of (z1.mono (by decide))) (z1.mono (by decide)) (by omega) (by omega)) ?_
    | refine Cd.mk (show regOk _ _ _ _ = true by kernel_rfl) ?_
    | refine Cd.mk rfl ?_
    | refine Br.t ?_
    | refine Br.f ?_
    | with_reducible refine Br.eqd ?_
    | with_reducible refine Br.eqb ?_
    | with_reducible refine Br.dec (fun _ => ?_) (fun _ => ?_)
    | with_reducible refine Br.ndec (fun _ => ?_) (fun _ => ?_)
    | refine Br.mk (fun _ => ?_) (fun _ => ?_)
    | refine NthE.mk _ rfl ?_
    | refine And.intro (fun _ => ?_) ?_
    | refine TkE.mk _ rfl rfl ?_
    | refine Res.mk ?_
    | refine DsE.mk [] rfl ?_
    | refine LoopEnd.go _ _ ⟨.inl rfl, rfl, rfl, by first | rfl | (repeat first | exact all_nil _ | refine all_la _ _ _ _ _ ?_)⟩ ?_
    | ((with_reducible refine EqE.idW ?_); first | refine EqE.mk ((S : Nat) : Int) (by rw [wrap_in (by omega) (by omega)]; exact hs) ?_ | with_reducible refine EqE.mk _ (n_i64 _ (by omega)) ?_ | with_reducible refine EqE.mk _ (n_succ _ (by omega)) ?_ | refine EqE.mk _ (wrap_in (by omega) (by omega)) ?_ | refine EqE.mk _ rfl ?_)
    | ((with_reducible refine EqE.idM ?_); first  | refine EqE.mk _ rfl ?_)
    | ((with_reducible refine EqE.idI ?_); first  | refine EqE.mk _ (max_eq _ _) ?_ | refine EqE.mk _ (min_eq _ _) ?_)
    | ((with_reducible refine EqE.idS ?_); first  | refine EqE.mk _ rfl ?_)
    | ((with_reducible refine EqE.idL ?_); first  | refine EqE.mk _ (sl_own _ _ _ _ (by omega) (by omega) rfl) ?_ | refine EqE.mk _ rfl ?_)
    | refine EqE.mk _ rfl ?_
    | refine Cd.mk (Nat.le_of_ble_eq_true rfl) ?_
    | refine Cd.mk ⟨rfl, rfl⟩ ?_
    | refine Cd.mk (by first | omega | (simp only [length_limbs, length_la]; omega)) ?_
    | refine Cd.mk ?_ ?_)
  · rename_i h3
    show dyD (dof (if upB (dman q / 2 ^ S) (dman q - dman q / 2 ^ S * 2 ^ S) S mode = true then dman q / 2 ^ S + 1 else dman q / 2 ^ S) e) = dyD (dof (dman q / 2 ^ S + 1) e)
    rw [Int.toNat_natCast] at h3
    rw [if_pos h3]
  · rename_i h3
    rw [Int.toNat_natCast] at h3
    show dyD (dof (if upB (dman q / 2 ^ S) (dman q - dman q / 2 ^ S * 2 ^ S) S mode = true then dman q / 2 ^ S + 1 else dman q / 2 ^ S) e) = dyD (dof (dman q / 2 ^ S) e)
    rw [if_neg (by rw [h3]; decide)]
theorem roGrid_sim {x : D} {q : Dyadic} (e mode : Int) (hx : DyR x q) (hq : Ht 500000 q) : Sim Tryd.prog G0 false 76 [x, .int .i64 e, .int .i64 mode] (dyD (grd q (min (max e (-20000)) 20000) mode)) := by
  have kx := hx
  obtain ⟨b, l, f, hl, g1, g2, _⟩ := hx
  refine sim_mk tab_ok Tryd.func76 rfl (by kernel_rfl) rfl (Nat.le_of_ble_eq_true rfl) ?_
  repeat' ((conv => whnf); first
    | refine CallE.mk _ _ (roheld_sim _) ?_
    | refine CallE.mk _ _ (rogrid_sim _ _ kx hq (by omega) (by omega)) ?_
    | refine Cd.mk (show regOk _ _ _ _ = true by kernel_rfl) ?_
    | refine Cd.mk rfl ?_
    | refine Br.t ?_
    | refine Br.f ?_
    | with_reducible refine Br.eqd ?_
    | with_reducible refine Br.eqb ?_
    | with_reducible refine Br.dec (fun _ => ?_) (fun _ => ?_)
    | with_reducible refine Br.ndec (fun _ => ?_) (fun _ => ?_)
    | refine Br.mk (fun _ => ?_) (fun _ => ?_)
    | refine NthE.mk _ rfl ?_
    | refine And.intro (fun _ => ?_) ?_
    | refine TkE.mk _ rfl rfl ?_
    | refine Res.mk ?_
    | refine DsE.mk [] rfl ?_
    | refine LoopEnd.go _ _ ⟨.inl rfl, rfl, rfl, by first | rfl | (repeat first | exact all_nil _ | refine all_la _ _ _ _ _ ?_)⟩ ?_
    | ((with_reducible refine EqE.idW ?_); first  | with_reducible refine EqE.mk _ (n_i64 _ (by omega)) ?_ | with_reducible refine EqE.mk _ (n_succ _ (by omega)) ?_ | refine EqE.mk _ (wrap_in (by omega) (by omega)) ?_ | refine EqE.mk _ rfl ?_)
    | ((with_reducible refine EqE.idM ?_); first  | refine EqE.mk _ rfl ?_)
    | ((with_reducible refine EqE.idI ?_); first  | refine EqE.mk _ (max_eq _ _) ?_ | refine EqE.mk _ (min_eq _ _) ?_)
    | ((with_reducible refine EqE.idS ?_); first  | refine EqE.mk _ rfl ?_)
    | ((with_reducible refine EqE.idL ?_); first  | refine EqE.mk _ (sl_own _ _ _ _ (by omega) (by omega) rfl) ?_ | refine EqE.mk _ rfl ?_)
    | refine EqE.mk _ rfl ?_
    | refine Cd.mk (Nat.le_of_ble_eq_true rfl) ?_
    | refine Cd.mk ⟨rfl, rfl⟩ ?_
    | refine Cd.mk (by first | omega | (simp only [length_limbs, length_la]; omega)) ?_
    | refine Cd.mk ?_ ?_)
  rfl
/-- The exponent of the multiples of p bits. -/
def unitE (q : Dyadic) (p : Int) : Int := dtop q - min (max p 1) 4000 + 1
theorem rounit_sim {x : D} {q : Dyadic} (p : Int) (hx : DyR x q) (hq : Ht 100000 q) : Sim Tryd.prog G0 true 135 [x, .int .i64 p] (.int .i64 (unitE q p)) := by
  have kx := hx
  have ht := dtop_bounds hq
  obtain ⟨b, l, f, hl, g1, g2, _⟩ := hx
  refine sim_mk tab_ok Tryd.func135 rfl (by kernel_rfl) rfl (Nat.le_of_ble_eq_true rfl) ?_
  repeat' ((conv => whnf); first
    | refine CallE.mk _ _ (dtop_sim kx) ?_
    | refine CallE.mk _ _ (roHeld_sim _) ?_
    | refine Cd.mk (show regOk _ _ _ _ = true by kernel_rfl) ?_
    | refine Cd.mk rfl ?_
    | refine Br.t ?_
    | refine Br.f ?_
    | with_reducible refine Br.eqd ?_
    | with_reducible refine Br.eqb ?_
    | with_reducible refine Br.dec (fun _ => ?_) (fun _ => ?_)
    | with_reducible refine Br.ndec (fun _ => ?_) (fun _ => ?_)
    | refine Br.mk (fun _ => ?_) (fun _ => ?_)
    | refine NthE.mk _ rfl ?_
    | refine And.intro (fun _ => ?_) ?_
    | refine TkE.mk _ rfl rfl ?_
    | refine Res.mk ?_
    | refine DsE.mk [] rfl ?_
    | refine LoopEnd.go _ _ ⟨.inl rfl, rfl, rfl, by first | rfl | (repeat first | exact all_nil _ | refine all_la _ _ _ _ _ ?_)⟩ ?_
    | ((with_reducible refine EqE.idW ?_); first  | with_reducible refine EqE.mk _ (n_i64 _ (by omega)) ?_ | with_reducible refine EqE.mk _ (n_succ _ (by omega)) ?_ | refine EqE.mk _ (wrap_in (by omega) (by omega)) ?_ | refine EqE.mk _ rfl ?_)
    | ((with_reducible refine EqE.idM ?_); first  | refine EqE.mk _ rfl ?_)
    | ((with_reducible refine EqE.idI ?_); first  | refine EqE.mk _ (max_eq _ _) ?_ | refine EqE.mk _ (min_eq _ _) ?_)
    | ((with_reducible refine EqE.idS ?_); first  | refine EqE.mk _ rfl ?_)
    | ((with_reducible refine EqE.idL ?_); first  | refine EqE.mk _ (sl_own _ _ _ _ (by omega) (by omega) rfl) ?_ | refine EqE.mk _ rfl ?_)
    | refine EqE.mk _ rfl ?_
    | refine Cd.mk (Nat.le_of_ble_eq_true rfl) ?_
    | refine Cd.mk ⟨rfl, rfl⟩ ?_
    | refine Cd.mk (by first | omega | (simp only [length_limbs, length_la]; omega)) ?_
    | refine Cd.mk ?_ ?_)
  rfl
/-- Rounded to p bits. -/
def rto (q : Dyadic) (p mode : Int) : Dyadic := if q = 0 then 0 else grd q (unitE q p) mode
theorem roTo_sim {x : D} {q : Dyadic} (p mode : Int) (hx : DyR x q) (hq : Ht 100000 q) : Sim Tryd.prog G0 false 74 [x, .int .i64 p, .int .i64 mode] (dyD (rto q p mode)) := by
  have kx := hx
  have ht := dtop_bounds hq
  have hu : -104000 ≤ unitE q p ∧ unitE q p ≤ 300001 := by unfold unitE; omega
  obtain ⟨b, l, f, hl, g1, g2, _⟩ := hx
  refine sim_mk tab_ok Tryd.func74 rfl (by kernel_rfl) rfl (Nat.le_of_ble_eq_true rfl) ?_
  repeat' ((conv => whnf); first
    | refine CallE.mk _ _ (dsign_sim kx) ?_
    | refine CallE.mk _ _ (rounit_sim _ kx hq) ?_
    | refine CallE.mk _ _ (rogrid_sim _ _ kx (hq.mono (by decide)) (by omega) (by omega)) ?_
    | refine Cd.mk (show regOk _ _ _ _ = true by kernel_rfl) ?_
    | refine Cd.mk rfl ?_
    | refine Br.t ?_
    | refine Br.f ?_
    | with_reducible refine Br.eqd ?_
    | with_reducible refine Br.eqb ?_
    | with_reducible refine Br.dec (fun _ => ?_) (fun _ => ?_)
    | with_reducible refine Br.ndec (fun _ => ?_) (fun _ => ?_)
    | refine Br.mk (fun _ => ?_) (fun _ => ?_)
    | refine NthE.mk _ rfl ?_
    | refine And.intro (fun _ => ?_) ?_
    | refine TkE.mk _ rfl rfl ?_
    | refine Res.mk ?_
    | refine DsE.mk [] rfl ?_
    | refine LoopEnd.go _ _ ⟨.inl rfl, rfl, rfl, by first | rfl | (repeat first | exact all_nil _ | refine all_la _ _ _ _ _ ?_)⟩ ?_
    | ((with_reducible refine EqE.idW ?_); first  | with_reducible refine EqE.mk _ (n_i64 _ (by omega)) ?_ | with_reducible refine EqE.mk _ (n_succ _ (by omega)) ?_ | refine EqE.mk _ (wrap_in (by omega) (by omega)) ?_ | refine EqE.mk _ rfl ?_)
    | ((with_reducible refine EqE.idM ?_); first  | refine EqE.mk _ rfl ?_)
    | ((with_reducible refine EqE.idI ?_); first  | refine EqE.mk _ (max_eq _ _) ?_ | refine EqE.mk _ (min_eq _ _) ?_)
    | ((with_reducible refine EqE.idS ?_); first  | refine EqE.mk _ rfl ?_)
    | ((with_reducible refine EqE.idL ?_); first  | refine EqE.mk _ (sl_own _ _ _ _ (by omega) (by omega) rfl) ?_ | refine EqE.mk _ rfl ?_)
    | refine EqE.mk _ rfl ?_
    | refine Cd.mk (Nat.le_of_ble_eq_true rfl) ?_
    | refine Cd.mk ⟨rfl, rfl⟩ ?_
    | refine Cd.mk (by first | omega | (simp only [length_limbs, length_la]; omega)) ?_
    | refine Cd.mk ?_ ?_)
  · rename_i h
    show dyD _ = D.agg [.bool false, sl [], .int .i64 0]
    rw [dyD_zero]; unfold rto; rw [if_pos (dsg_eq.1 h)]
  · rename_i h
    show dyD _ = dyD (grd _ _ _)
    unfold rto; rw [if_neg (fun e => h (dsg_eq.2 e))]
/-- How far multiples of p bits are from one another. -/
def ulpD (q : Dyadic) (p : Int) : Dyadic := if q = 0 then 0 else dof 1 (unitE q p)
theorem roUlp_sim {x : D} {q : Dyadic} (p : Int) (hx : DyR x q) (hq : Ht 100000 q) : Sim Tryd.prog G0 false 78 [x, .int .i64 p] (dyD (ulpD q p)) := by
  have kx := hx
  have ht := dtop_bounds hq
  have hu : -104000 ≤ unitE q p ∧ unitE q p ≤ 300001 := by unfold unitE; omega
  obtain ⟨b, l, f, hl, g1, g2, _⟩ := hx
  refine sim_mk tab_ok Tryd.func78 rfl (by kernel_rfl) rfl (Nat.le_of_ble_eq_true rfl) ?_
  repeat' ((conv => whnf); first
    | refine CallE.mk _ _ (dsign_sim kx) ?_
    | refine CallE.mk _ _ (rounit_sim _ kx hq) ?_
    | refine CallE.mk _ _ (zof_sim 1 (by decide) (by decide)) ?_
    | refine CallE.mk _ _ (draw_sim (cz (n := 1) (by decide)).1 (cz (by decide)).2 (by omega) (by omega)) ?_
    | refine Cd.mk (show regOk _ _ _ _ = true by kernel_rfl) ?_
    | refine Cd.mk rfl ?_
    | refine Br.t ?_
    | refine Br.f ?_
    | with_reducible refine Br.eqd ?_
    | with_reducible refine Br.eqb ?_
    | with_reducible refine Br.dec (fun _ => ?_) (fun _ => ?_)
    | with_reducible refine Br.ndec (fun _ => ?_) (fun _ => ?_)
    | refine Br.mk (fun _ => ?_) (fun _ => ?_)
    | refine NthE.mk _ rfl ?_
    | refine And.intro (fun _ => ?_) ?_
    | refine TkE.mk _ rfl rfl ?_
    | refine Res.mk ?_
    | refine DsE.mk [] rfl ?_
    | refine LoopEnd.go _ _ ⟨.inl rfl, rfl, rfl, by first | rfl | (repeat first | exact all_nil _ | refine all_la _ _ _ _ _ ?_)⟩ ?_
    | ((with_reducible refine EqE.idW ?_); first  | with_reducible refine EqE.mk _ (n_i64 _ (by omega)) ?_ | with_reducible refine EqE.mk _ (n_succ _ (by omega)) ?_ | refine EqE.mk _ (wrap_in (by omega) (by omega)) ?_ | refine EqE.mk _ rfl ?_)
    | ((with_reducible refine EqE.idM ?_); first  | refine EqE.mk _ rfl ?_)
    | ((with_reducible refine EqE.idI ?_); first  | refine EqE.mk _ (max_eq _ _) ?_ | refine EqE.mk _ (min_eq _ _) ?_)
    | ((with_reducible refine EqE.idS ?_); first  | refine EqE.mk _ rfl ?_)
    | ((with_reducible refine EqE.idL ?_); first  | refine EqE.mk _ (sl_own _ _ _ _ (by omega) (by omega) rfl) ?_ | refine EqE.mk _ rfl ?_)
    | refine EqE.mk _ rfl ?_
    | refine Cd.mk (Nat.le_of_ble_eq_true rfl) ?_
    | refine Cd.mk ⟨rfl, rfl⟩ ?_
    | refine Cd.mk (by first | omega | (simp only [length_limbs, length_la]; omega)) ?_
    | refine Cd.mk ?_ ?_)
  · rename_i h
    show dyD _ = D.agg [.bool false, sl [], .int .i64 0]
    rw [dyD_zero]; unfold ulpD; rw [if_pos (dsg_eq.1 h)]
  · rename_i h
    show dyD _ = dyD (dof 1 _)
    unfold ulpD; rw [if_neg (fun e => h (dsg_eq.2 e))]
theorem roFits_sim {x : D} {q : Dyadic} (p : Int) (hx : DyR x q) (hq : Ht 100000 q) (ht : Ht 500000 (rto q p 0)) : Sim Tryd.prog G0 true 80 [x, .int .i64 p] (.bool (decide (rto q p 0 = q))) := by
  have kx := hx
  have hd : Ht 600000 (rto q p 0 - q) := ht.sub hq (by decide)
  obtain ⟨b, l, f, hl, g1, g2, _⟩ := hx
  refine sim_mk tab_ok Tryd.func80 rfl (by kernel_rfl) rfl (Nat.le_of_ble_eq_true rfl) ?_
  repeat' ((conv => whnf); first
    | refine CallE.mk _ _ (roTo_sim _ _ kx hq) ?_
    | refine CallE.mk _ _ (dsame_sim (.of (ht.mono (by decide))) kx (hd.mono (by decide))) ?_
    | refine Cd.mk (show regOk _ _ _ _ = true by kernel_rfl) ?_
    | refine Cd.mk rfl ?_
    | refine Br.t ?_
    | refine Br.f ?_
    | with_reducible refine Br.eqd ?_
    | with_reducible refine Br.eqb ?_
    | with_reducible refine Br.dec (fun _ => ?_) (fun _ => ?_)
    | with_reducible refine Br.ndec (fun _ => ?_) (fun _ => ?_)
    | refine Br.mk (fun _ => ?_) (fun _ => ?_)
    | refine NthE.mk _ rfl ?_
    | refine And.intro (fun _ => ?_) ?_
    | refine TkE.mk _ rfl rfl ?_
    | refine Res.mk ?_
    | refine DsE.mk [] rfl ?_
    | refine LoopEnd.go _ _ ⟨.inl rfl, rfl, rfl, by first | rfl | (repeat first | exact all_nil _ | refine all_la _ _ _ _ _ ?_)⟩ ?_
    | ((with_reducible refine EqE.idW ?_); first  | with_reducible refine EqE.mk _ (n_i64 _ (by omega)) ?_ | with_reducible refine EqE.mk _ (n_succ _ (by omega)) ?_ | refine EqE.mk _ (wrap_in (by omega) (by omega)) ?_ | refine EqE.mk _ rfl ?_)
    | ((with_reducible refine EqE.idM ?_); first  | refine EqE.mk _ rfl ?_)
    | ((with_reducible refine EqE.idI ?_); first  | refine EqE.mk _ (max_eq _ _) ?_ | refine EqE.mk _ (min_eq _ _) ?_)
    | ((with_reducible refine EqE.idS ?_); first  | refine EqE.mk _ rfl ?_)
    | ((with_reducible refine EqE.idL ?_); first  | refine EqE.mk _ (sl_own _ _ _ _ (by omega) (by omega) rfl) ?_ | refine EqE.mk _ rfl ?_)
    | refine EqE.mk _ rfl ?_
    | refine Cd.mk (Nat.le_of_ble_eq_true rfl) ?_
    | refine Cd.mk ⟨rfl, rfl⟩ ?_
    | refine Cd.mk (by first | omega | (simp only [length_limbs, length_la]; omega)) ?_
    | refine Cd.mk ?_ ?_)
  rfl
/- THE REFERENCE -/
theorem zdiv_parts (m : Int) (K : Nat) (hK : 0 < K) : m / (K : Int) = if zneg m = true ∧ m.natAbs % K ≠ 0 then -((m.natAbs / K + 1 : Nat) : Int) else if zneg m = true then -((m.natAbs / K : Nat) : Int) else ((m.natAbs / K : Nat) : Int) := by
  have h1 := Nat.div_add_mod m.natAbs K
  have h2 := Nat.mod_lt m.natAbs hK
  by_cases h : m < 0
  · have hz : zneg m = true := decide_eq_true h
    have h3 : m = -((m.natAbs : Nat) : Int) := by omega
    rw [hz]
    generalize hq : m.natAbs / K = q at *
    generalize hr : m.natAbs % K = r at *
    have h4 : (m.natAbs : Int) = K * q + r := by rw [← h1]; simp
    by_cases h5 : r = 0
    · rw [if_neg (by simp [h5]), if_pos rfl]
      have h6 : m = (K : Int) * (-(q : Int)) := by rw [h3, h4, h5]; grind
      rw [h6, Int.mul_ediv_cancel_left _ (by omega)]
    · rw [if_pos ⟨rfl, h5⟩]
      have h6 : m = (K : Int) * (-((q + 1 : Nat) : Int)) + ((K : Int) - r) := by rw [h3, h4]; grind
      rw [h6, Int.mul_add_ediv_left _ _ (by omega), Int.ediv_eq_zero_of_lt (by omega) (by omega)]; omega
  · have hz : zneg m = false := decide_eq_false h
    rw [hz, if_neg (by simp), if_neg (by simp)]
    have h3 : m = ((m.natAbs : Nat) : Int) := by omega
    rw [h3]; rfl
theorem len_lt_of {x j k : Nat} (h : x < 2 ^ j) (hj : j ≤ 32 * k) : (ofN x).length ≤ k := len_lt (Nat.lt_of_lt_of_le h (Nat.pow_le_pow_right (by decide) hj))
theorem rdivint_sim {x : D} {m : Int} (K : Nat) {j : Nat} (hx : ZR x m) (hK : 0 < K) (hm : Zt 100000000 m) (hj : j ≤ 200000) (hk : K < 2 ^ j) : Sim Tryd.prog G0 false 197 [x, .agg [.bool false, sl (ofN K)]] (.tup [zD (m / (K : Int)), zD (m % (K : Int)), .bool true]) := by
  have e1 := hm.len (k := 3125000) (by decide)
  have e2 : (ofN K).length ≤ 6250 := len_lt_of hk (by omega)
  have kk : ZR (.agg [.bool false, sl (ofN K)]) (K : Int) := by
    have h := ZR.mk false (ofN K) (by omega)
    rwa [zv_false, nv_ofN] at h
  obtain ⟨b, l, hl⟩ := hx
  generalize hM : zv b l = M at *
  have kx : ZR (.agg [.bool b, sl l]) M := hM ▸ .mk b l hl
  have nK : zneg (K : Int) = false := decide_eq_false (by omega)
  have e2' : (ofN (K : Int).natAbs).length ≤ 6250 := e2
  have e3 : (ofN (nv (ofN M.natAbs) / nv (ofN (K : Int).natAbs))).length ≤ 3125000 := Nat.le_trans (ofN_len_le.2 (Nat.lt_of_le_of_lt (Nat.div_le_self _ _) (nv_lt _))) e1
  have e4 : (ofN (nv (ofN M.natAbs) % nv (ofN (K : Int).natAbs))).length ≤ 6250 := Nat.le_trans (ofN_len_le.2 (by rw [nv_ofN, nv_ofN]; refine Nat.lt_trans (Nat.mod_lt _ hK) ?_; have := nv_lt (ofN K); rw [nv_ofN] at this; exact this)) e2
  have e5 : (ofN (nv (ofN (nv (ofN M.natAbs) / nv (ofN (K : Int).natAbs))) + nv [1])).length ≤ 3125001 := ofN_len_le.2 (by
    have h1 := nv_lt (ofN (nv (ofN M.natAbs) / nv (ofN (K : Int).natAbs)))
    have h2 := Pw_mono e3
    have h4 := Pw_pos 3125000
    have h5 : nv [1] = 1 := rfl
    rw [show 3125001 = 3125000 + 1 from rfl, Pw_succ]
    omega)
  have e6 : (ofN (nv (ofN (K : Int).natAbs) - nv (ofN (nv (ofN M.natAbs) % nv (ofN (K : Int).natAbs))))).length ≤ 6250 := Nat.le_trans (ofN_len_le.2 (Nat.lt_of_le_of_lt (Nat.sub_le _ _) (by have := nv_lt (ofN (K : Int).natAbs); exact this))) e2
  have hdv := zdiv_parts M K hK
  have hmd := Int.emod_def M (K : Int)
  have hnm := Nat.div_add_mod M.natAbs K
  have hlt := Nat.mod_lt M.natAbs hK
  refine sim_mk tab_ok Tryd.func197 rfl (by kernel_rfl) rfl (Nat.le_of_ble_eq_true rfl) ?_
  repeat' ((conv => whnf); first
    | refine CallE.mk _ _ (rnorm_sim kx) ?_
    | refine CallE.mk _ _ (rnorm_sim kk) ?_
    | refine CallE.mk _ _ (rdiv_sim _ _ (by omega) (by omega) (by rw [nv_ofN]; omega)) ?_
    | refine CallE.mk _ _ (radd_sim _ _ (by omega) (by simp)) ?_
    | refine DsE.mk (limbs [1]) rfl ?_
    | refine CallE.mk _ _ (rsub_sim _ _ (by omega) (by omega)) ?_
    | refine CallE.mk _ _ (rnorm_sim (.mk _ _ (by omega))) ?_
    | refine Cd.mk (show regOk _ _ _ _ = true by kernel_rfl) ?_
    | refine Cd.mk rfl ?_
    | refine Br.t ?_
    | refine Br.f ?_
    | with_reducible refine Br.eqd ?_
    | with_reducible refine Br.eqb ?_
    | with_reducible refine Br.dec (fun _ => ?_) (fun _ => ?_)
    | with_reducible refine Br.ndec (fun _ => ?_) (fun _ => ?_)
    | refine Br.mk (fun _ => ?_) (fun _ => ?_)
    | refine NthE.mk _ rfl ?_
    | refine And.intro (fun _ => ?_) ?_
    | refine TkE.mk _ rfl rfl ?_
    | refine Res.mk ?_
    | refine DsE.mk [] rfl ?_
    | refine LoopEnd.go _ _ ⟨.inl rfl, rfl, rfl, by first | rfl | (repeat first | exact all_nil _ | refine all_la _ _ _ _ _ ?_)⟩ ?_
    | ((with_reducible refine EqE.idW ?_); first  | with_reducible refine EqE.mk _ (n_i64 _ (by omega)) ?_ | with_reducible refine EqE.mk _ (n_succ _ (by omega)) ?_ | refine EqE.mk _ (wrap_in (by omega) (by omega)) ?_ | refine EqE.mk _ rfl ?_)
    | ((with_reducible refine EqE.idM ?_); first  | refine EqE.mk _ rfl ?_)
    | ((with_reducible refine EqE.idI ?_); first  | refine EqE.mk _ (max_eq _ _) ?_ | refine EqE.mk _ (min_eq _ _) ?_)
    | ((with_reducible refine EqE.idS ?_); first  | refine EqE.mk _ rfl ?_)
    | ((with_reducible refine EqE.idL ?_); first | refine EqE.mk (sl [1]) rfl ?_ | refine EqE.mk _ (sl_own _ _ _ _ (by omega) (by omega) rfl) ?_ | refine EqE.mk _ rfl ?_)
    | refine EqE.mk _ rfl ?_
    | refine Cd.mk (Nat.le_of_ble_eq_true rfl) ?_
    | refine Cd.mk ⟨rfl, rfl⟩ ?_
    | refine Cd.mk (by first | omega | (simp only [length_limbs, length_la]; omega)) ?_
    | refine Cd.mk ?_ ?_)
  · rename_i h1 h2
    have hn : zneg M = true := by rw [nK] at h1; cases h : zneg M <;> simp [h] at h1 ⊢
    have hr : M.natAbs % K ≠ 0 := fun e => by
      rw [nv_ofN, nv_ofN, Int.natAbs_natCast, e, ofN_zero] at h2; simp at h2
    rw [if_pos ⟨hn, hr⟩] at hdv
    have hM0 : M < 0 := of_decide_eq_true hn
    show D.tup [zD _, zD _, .bool true] = D.tup [zD (zv (!(zneg M == zneg (K : Int))) (ofN (nv (ofN (nv (ofN M.natAbs) / nv (ofN (K : Int).natAbs))) + nv [1]))), zD (zv (zneg (K : Int)) (ofN (nv (ofN (K : Int).natAbs) - nv (ofN (nv (ofN M.natAbs) % nv (ofN (K : Int).natAbs)))))), .bool true]
    rw [nK, hn]
    simp only [nv_ofN, Int.natAbs_natCast]
    have q1 : zv (!(true == false)) (ofN (M.natAbs / K + nv [1])) = M / (K : Int) := by rw [hdv]; show zv true _ = _; rw [zv_true, nv_ofN]; rfl
    have q2 : zv false (ofN (K - M.natAbs % K)) = M % (K : Int) := by
      rw [zv_false, nv_ofN, hmd, hdv]
      generalize M.natAbs / K = q at *
      generalize M.natAbs % K = r at *
      have h4 : (M.natAbs : Int) = K * q + r := by rw [← hnm]; simp
      have h5 : M = -((K : Int) * q + r) := by omega
      rw [h5, show ((K - r : Nat) : Int) = (K : Int) - r by omega]
      have : ((q + 1 : Nat) : Int) = (q : Int) + 1 := by omega
      rw [this]; grind
    rw [q1, q2]
  · rename_i h1 h2
    have hn : zneg M = true := by rw [nK] at h1; cases h : zneg M <;> simp [h] at h1 ⊢
    have hr : M.natAbs % K = 0 := by
      have h3 := ofN_len_zero (n := M.natAbs % K)
      rw [nv_ofN, nv_ofN, Int.natAbs_natCast] at h2; omega
    rw [if_neg (by simp [hr]), if_pos hn] at hdv
    have hM0 : M < 0 := of_decide_eq_true hn
    show D.tup [zD _, zD _, .bool true] = D.tup [zD (zv (!(zneg M == zneg (K : Int))) (ofN (nv (ofN M.natAbs) / nv (ofN (K : Int).natAbs)))), zD (zv (zneg (K : Int)) (ofN (nv (ofN M.natAbs) % nv (ofN (K : Int).natAbs)))), .bool true]
    rw [nK, hn]
    simp only [nv_ofN, Int.natAbs_natCast]
    have q1 : zv (!(true == false)) (ofN (M.natAbs / K)) = M / (K : Int) := by rw [hdv]; show zv true _ = _; rw [zv_true, nv_ofN]
    have q2 : zv false (ofN (M.natAbs % K)) = M % (K : Int) := by
      rw [zv_false, nv_ofN, hmd, hdv]
      generalize M.natAbs / K = q at *
      generalize M.natAbs % K = r at *
      have h4 : (M.natAbs : Int) = K * q + r := by rw [← hnm]; simp
      have h5 : M = -((K : Int) * q + r) := by omega
      rw [h5, hr]; grind
    rw [q1, q2]
  · rename_i h1
    have hn : zneg M = false := by rw [nK] at h1; cases h : zneg M <;> simp [h] at h1 ⊢
    rw [if_neg (by simp [hn]), if_neg (by simp [hn])] at hdv
    have hM0 : ¬ M < 0 := of_decide_eq_false hn
    show D.tup [zD _, zD _, .bool true] = D.tup [zD (zv (!(zneg M == zneg (K : Int))) (ofN (nv (ofN M.natAbs) / nv (ofN (K : Int).natAbs)))), zD (zv (zneg (K : Int)) (ofN (nv (ofN M.natAbs) % nv (ofN (K : Int).natAbs)))), .bool true]
    rw [nK, hn]
    simp only [nv_ofN, Int.natAbs_natCast]
    have q1 : zv (!(false == false)) (ofN (M.natAbs / K)) = M / (K : Int) := by rw [hdv]; show zv false _ = _; rw [zv_false, nv_ofN]
    have q2 : zv false (ofN (M.natAbs % K)) = M % (K : Int) := by
      rw [zv_false, nv_ofN, hmd, hdv]
      generalize M.natAbs / K = q at *
      generalize M.natAbs % K = r at *
      have h4 : (M.natAbs : Int) = K * q + r := by rw [← hnm]; simp
      have h5 : M = (K : Int) * q + r := by omega
      rw [h5]; grind
    rw [q1, q2]
end Go.Ev.Ar
