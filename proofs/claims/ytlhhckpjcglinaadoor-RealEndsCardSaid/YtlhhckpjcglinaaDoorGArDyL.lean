/- Contracts of the given functions, on data. Conditions stand in each theorem. -/
import Derived.Test.YtlhhckpjcglinaaDoorGArZ
import Derived.Test.YtlhhckpjcglinaaDoorGArRZ
import Derived.Test.YtlhhckpjcglinaaDoorGEvZ
import Derived.Test.YtlhhckpjcglinaaDoorGArRefD
set_option linter.unusedSimpArgs false
set_option linter.unusedVariables false
namespace Go.Ev.Ar
open Go Go.Ev Go.Proofs

/-- Told as it must be? -/
def isDy (b : Bool) (l : List UInt32) (e : Int) : Bool := cutOk l && (decide (0 < l.length) || !b) && decide (-20000 ≤ e) && decide (e ≤ 20000) && (if l.length = 0 then decide (e = 0) else decide ((l.getD 0 0).toNat % 2 = 1))
theorem isDy_no {b : Bool} {l : List UInt32} {e : Int} (h : (cutOk l && (decide (0 < l.length) || !b)) = false ∨ e < -20000 ∨ 20000 < e) : isDy b l e = false := by
  unfold isDy
  rcases h with h | h | h
  · rw [h]; rfl
  · rw [decide_eq_false (show ¬ -20000 ≤ e by omega)]; simp
  · rw [decide_eq_false (show ¬ e ≤ 20000 by omega)]; simp
theorem isDy_nil {b : Bool} {l : List UInt32} {e : Int} (h : (cutOk l && (decide (0 < l.length) || !b)) = true) (h1 : ¬ e < -20000) (h2 : ¬ e > 20000) (h3 : l.length = 0) : isDy b l e = decide (e = 0) := by
  unfold isDy
  rw [h, decide_eq_true (show -20000 ≤ e by omega), decide_eq_true (show e ≤ 20000 by omega), if_pos h3]; rfl
theorem isDy_odd {b : Bool} {l : List UInt32} {e : Int} (h : (cutOk l && (decide (0 < l.length) || !b)) = true) (h1 : ¬ e < -20000) (h2 : ¬ e > 20000) (h3 : ¬ l.length = 0) : isDy b l e = decide ((l.getD 0 0).toNat % 2 = 1) := by
  unfold isDy
  rw [h, decide_eq_true (show -20000 ≤ e by omega), decide_eq_true (show e ≤ 20000 by omega), if_neg h3]; rfl
/-- A dyadic number's cells. -/
def dyA (q : Dyadic) : List A := [.d (.bool (zneg (dman q))), .d (sl (ofN (dman q).natAbs)), .d (.int .i64 (dexp q))]
def zeA : List A := [.d (.bool false), .d .nil, .d (.int .i64 0)]
theorem dpow_sim {x : D} {p : Dyadic} (n : Int) (hx : DyR x p) (hp : Ht 16000 p) : Sim Tryd.prog G0 false 42 [x, .int .i64 n] (dyD (p ^ (min (max n 0) 64).toNat)) := by
  have kx := hx
  obtain ⟨b, l, e, hl, h1, h2, _⟩ := hx
  generalize dof (zv b l) e = p at *
  refine sim_mk tab_ok Tryd.func42 rfl (by kernel_rfl) rfl ⟨Nat.le_of_ble_eq_true rfl, Nat.le_of_ble_eq_true rfl⟩ ?_
  repeat' ((conv => whnf); first
    | with_reducible refine CallX.data ?_
    | refine CallE.mk _ _ (dof_sim kx) ?_
    | refine CallE.mk _ _ (dofn_sim _ (by decide) (by decide)) ?_
    | refine RegE.early (Cd.mk (show regOk _ _ _ _ = true by kernel_rfl) ?_)
    | refine Cd.mk rfl ?_
    | (refine TkE.fL ?_; (conv => whnf); fail_if_success (show forceL _ _))
    | ((with_reducible refine EqE.idI ?_); first | refine EqE.mk _ (max_eq _ _) ?_ | refine EqE.mk _ (min_eq _ _) ?_)
    | ((with_reducible refine EqE.idS ?_); (refine EqE.fP ?_; (conv => whnf); fail_if_success (show forceL _ _)))
    | refine Cd.mk (Nat.le_of_ble_eq_true rfl) ?_)
  refine ⟨[], [2, 4, 5, 11, 12], [2, 4, 5], fun m ys h => ∃ (i : Nat), m = (min (max n 0) 64).toNat - i ∧ i ≤ (min (max n 0) 64).toNat ∧ ys = [.ptr 2 0, .ptr 4 0, .ptr 5 0, .d (.int .i64 (min (max n 0) 64)), .d (.int .i64 i)] ∧
    h = [(5, false, dyA (p ^ i)), (4, false, zeA), (2, false, dyA p)],
    ⟨_, _, _, ⟨.inl rfl, rfl, rfl, by first | rfl | (repeat first | exact all_nil _ | refine all_la _ _ _ _ _ ?_)⟩, 0, rfl, by omega, rfl, ?_⟩, ?_⟩
  · rw [Dyadic.pow_zero]; rfl
  rintro m ys h ⟨i, rfl, hi, rfl, rfl⟩
  obtain ⟨hp1, hp2, hp3⟩ := hp.parts
  by_cases hlt : i < (min (max n 0) 64).toNat
  · have hpi := (hp.pow i).mono (show 16000 * i + 1 ≤ 1024001 by omega)
    obtain ⟨hq1, hq2, hq3⟩ := hpi.parts
    have hz := hq1.mul hp1 (c := 2080002) (by decide)
    repeat' ((conv => whnf); first
      | with_reducible refine Br.dec (fun _ => ?_) (fun h => absurd (by omega) h)
      | refine CallE.mk _ _ (zmul_sim (.of (n := dman (p ^ i)) (hq1.mono (by decide))) (.of (n := dman p) (hp1.mono (by decide)))) ?_
      | refine CallE.mk _ _ (draw_sim (.of (hz.mono (by decide))) (hz.mono (by decide)) (by omega) (by omega)) ?_
      | refine RegE.early (Cd.mk (show regOk _ _ _ _ = true by kernel_rfl) ?_)
      | refine Cd.mk rfl ?_
      | refine NthE.mk _ rfl ?_
      | (refine TkE.fL ?_; (conv => whnf); fail_if_success (show forceL _ _))
      | refine LoopEnd.go _ _ ⟨.inl rfl, rfl, rfl, by first | rfl | (repeat first | exact all_nil _ | refine all_la _ _ _ _ _ ?_)⟩ ?_
      | ((with_reducible refine EqE.idW ?_); first | with_reducible refine EqE.mk _ (n_succ _ (by omega)) ?_ | refine EqE.mk _ (wrap_in (by omega) (by omega)) ?_)
      | ((with_reducible refine EqE.idS ?_); (refine EqE.fP ?_; (conv => whnf); fail_if_success (show forceL _ _)))
      | refine Cd.mk (Nat.le_of_ble_eq_true rfl) ?_)
    refine ⟨_, ⟨i + 1, rfl, by omega, rfl, ?_⟩, by omega⟩
    have e : p ^ (i + 1) = dof (dman (p ^ i) * dman p) (dexp (p ^ i) + dexp p) := by rw [← dof_mul, dof_self, dof_self, Dyadic.pow_succ]
    rw [e]; rfl
  · have e : i = (min (max n 0) 64).toNat := by omega
    repeat' ((conv => whnf); first
      | with_reducible refine Br.dec (fun h => absurd h (by omega)) (fun _ => ?_)
      | refine RegE.early (Cd.mk (show regOk _ _ _ _ = true by kernel_rfl) ?_)
      | refine Cd.mk rfl ?_
      | (refine TkE.fL ?_; (conv => whnf); fail_if_success (show forceL _ _))
      | refine Res.mk ?_
      | ((with_reducible refine EqE.idS ?_); (refine EqE.fP ?_; (conv => whnf); fail_if_success (show forceL _ _)))
      | refine Cd.mk (Nat.le_of_ble_eq_true rfl) ?_)
    show dyD _ = dyD (p ^ i)
    rw [e]
theorem zt_small (n : Int) (k : Nat) (h : n.natAbs ≤ 1000) (hk : 64 ≤ k) : Zt k n := .small (by omega) hk
theorem isDy_dyD (q : Dyadic) (h1 : -20000 ≤ dexp q) (h2 : dexp q ≤ 20000) : isDy (zneg (dman q)) (ofN (dman q).natAbs) (dexp q) = true := by
  unfold isDy
  have h3 := ofN_len_zero (n := (dman q).natAbs)
  rw [cutOk_ofN, decide_eq_true h1, decide_eq_true h2]
  by_cases h : q = 0
  · subst h; rw [dman_zero, dexp_zero, show Int.natAbs 0 = 0 from rfl, ofN_zero]; rfl
  · have h4 : dman q ≠ 0 := fun e => h (dman_eq_zero.1 e)
    have h5 := dman_odd h
    rw [if_neg (by omega), decide_eq_true (show 0 < (ofN (dman q).natAbs).length by omega), nv_getD, nv_ofN, Pw_zero, Nat.div_one, decide_eq_true (by omega)]; rfl
theorem dcmp_at {x y : D} {p q : Dyadic} {s : Int} (hx : DyR x p) (hy : DyR y q) (hpq : Ht 1048576 (p - q)) (h : dsg (p - q) = s) : Sim Tryd.prog G0 true 45 [x, y] (.int .i64 s) := h ▸ dcmp_sim hx hy hpq
theorem dsign_at' {x : D} {q : Dyadic} {s : Int} (hx : DyR x q) (h : dsg q = s) : Sim Tryd.prog G0 true 55 [x] (.int .i64 s) := h ▸ dsign_sim hx
theorem dtop_at {x : D} {q : Dyadic} {s : Int} (hx : DyR x q) (h : dtop q = s) : Sim Tryd.prog G0 true 65 [x] (.int .i64 s) := h ▸ dtop_sim hx
theorem dadd_at {x y : D} {p q r : Dyadic} (hx : DyR x p) (hy : DyR y q) (h : p + q = r) : Sim Tryd.prog G0 false 54 [x, y] (dyD r) := h ▸ dadd_sim hx hy
theorem dmul_at {x y : D} {p q r : Dyadic} (hx : DyR x p) (hy : DyR y q) (h : p * q = r) : Sim Tryd.prog G0 false 49 [x, y] (dyD r) := h ▸ dmul_sim hx hy
theorem dpow_at {x : D} {p q : Dyadic} {n : Int} (hx : DyR x p) (hp : Ht 16000 p) (h : p ^ (min (max n 0) 64).toNat = q) : Sim Tryd.prog G0 false 42 [x, .int .i64 n] (dyD q) := h ▸ dpow_sim n hx hp
theorem cz {n : Int} (h : decide (n.natAbs ≤ 1000) = true) : ZR (zD n) n ∧ Zt 134217728 n := ⟨.of (zt_small n _ (of_decide_eq_true h) (by decide)), zt_small n _ (of_decide_eq_true h) (by decide)⟩
theorem rsame_at {m n : Int} (hm : Zt 134217728 m) (hn : Zt 134217728 n) (h : m = n) : Sim Tryd.prog G0 true 57 [zD m, zD n] (.bool true) := by
  have h2 := rsameint_sim hm hn
  rwa [decide_eq_true h] at h2
abbrev k4x : Dyadic := dof 3 2
abbrev k4y : Dyadic := dof (-1) (-2)
theorem rmake_at {x : D} {m e : Int} {q : Dyadic} (hx : ZR x m) (hm : Zt 100000 m) (h : dof m (min (max e (-20000)) 20000) = q) : Sim Tryd.prog G0 false 50 [x, .int .i64 e] (dyD q) := h ▸ rmake_sim e hx hm
theorem requal_at {p : Dyadic} (hp : Ht 50000 p) : Sim Tryd.prog G0 true 31 [dyD p, dyD p] (.bool true) := by
  have h := requal_sim hp hp
  rwa [decide_eq_true rfl] at h
theorem clamp_id {e : Int} (h1 : -20000 ≤ e) (h2 : e ≤ 20000) : min (max e (-20000)) 20000 = e := by omega
/-- What is known of a number of few limbs. -/
theorem few_dy {b : Bool} {l : List UInt32} {e : Int} (h : fewD 20 2000 l e = true) : DyR (.agg [.bool b, sl l, .int .i64 e]) (dof (zv b l) e) ∧ Ht 2640 (dof (zv b l) e) ∧ ZR (.agg [.bool b, sl l]) (zv b l) ∧ Zt 640 (zv b l) ∧ dof (zv b l) (min (max e (-20000)) 20000) = dof (zv b l) e ∧ l.length < 4294967296 := by
  obtain ⟨h1, h2, h3⟩ := fewD_iff.1 h
  exact ⟨dyR_few (n := 20) (b := 2000) (by decide) (by decide) ⟨h1, h2, h3⟩, ht_few (n := 20) (b := 2000) ⟨h1, h2, h3⟩, .mk _ _ (by omega), .of_len h1 (by decide), by rw [clamp_id (by omega) (by omega)], by omega⟩
end Go.Ev.Ar

namespace Go.Ev.Ar
open Go Go.Ev Go.Proofs

theorem roHeld_sim (e : Int) : Sim Tryd.prog G0 true 69 [.int .i64 e] (.int .i64 (min (max e 1) 4000)) := by
  refine sim_mk tab_ok Tryd.func69 rfl (by kernel_rfl) rfl ⟨Nat.le_of_ble_eq_true rfl, Nat.le_of_ble_eq_true rfl⟩ ?_
  repeat' ((conv => whnf); first
    | with_reducible refine CallX.data ?_
    | refine RegE.early (Cd.mk (show regOk _ _ _ _ = true by kernel_rfl) ?_)
    | refine Cd.mk rfl ?_
    | refine Br.t ?_
    | refine Br.f ?_
    | with_reducible refine Br.eqd ?_
    | with_reducible refine Br.eqb ?_
    | with_reducible refine Br.dec (fun _ => ?_) (fun _ => ?_)
    | with_reducible refine Br.ndec (fun _ => ?_) (fun _ => ?_)
    | refine Br.mk (fun _ => ?_) (fun _ => ?_)
    | refine NthE.mk _ rfl ?_
    | refine And.intro (fun _ => ?_) ?_
    | (refine TkE.fL ?_; (conv => whnf); fail_if_success (show forceL _ _))
    | refine TkE.mk _ rfl rfl ?_
    | refine Res.mk ?_
    | refine LateE.mk (by repeat first | exact True.intro | refine And.intro (by kernel_rfl) ?_) ?_
    | refine DsE.mk [] rfl ?_
    | refine LoopEnd.go _ _ ⟨.inl rfl, rfl, rfl, by first | rfl | (repeat first | exact all_nil _ | refine all_la _ _ _ _ _ ?_)⟩ ?_
    | ((with_reducible refine EqE.idW ?_); first | with_reducible refine EqE.mk _ (n_i64 _ (by omega)) ?_ | with_reducible refine EqE.mk _ (n_succ _ (by omega)) ?_ | refine EqE.mk _ (wrap_in (by omega) (by omega)) ?_ | refine EqE.mk _ rfl ?_)
    | ((with_reducible refine EqE.idM ?_); refine EqE.mk _ rfl ?_)
    | ((with_reducible refine EqE.idI ?_); first | refine EqE.mk _ (max_eq _ _) ?_ | refine EqE.mk _ (min_eq _ _) ?_)
    | ((with_reducible refine EqE.idS ?_); first | (refine EqE.fP ?_; (conv => whnf); fail_if_success (show forceL _ _)) | refine EqE.mk _ rfl ?_)
    | ((with_reducible refine EqE.idL ?_); first | refine EqE.mk _ (sl_own _ _ _ _ (by omega) (by omega) rfl) ?_ | refine EqE.mk _ rfl ?_)
    | refine EqE.mk _ rfl ?_
    | refine Cd.mk (Nat.le_of_ble_eq_true rfl) ?_
    | refine Cd.mk ⟨rfl, rfl⟩ ?_
    | refine Cd.mk (by first | omega | (simp only [length_limbs, length_la]; omega)) ?_
    | refine Cd.mk ?_ ?_)
  rfl
theorem zv_odd (b : Bool) (l : List UInt32) : zv b l % 2 = 1 ↔ (l.getD 0 0).toNat % 2 = 1 := by
  have h := nv_getD l 0
  rw [Pw_zero, Nat.div_one] at h
  unfold zv; split <;> omega
theorem ro_floor {q : Dyadic} {a : Nat} {s : Nat} (hq : Zt a (dman q)) (hs : s ≤ 3100000) (ha : a ≤ 1000000) : Zt a (dman q / 2 ^ s) ∧ Zt 4200000 (dman q / 2 ^ s * 2 ^ s) ∧ Zt 4200000 (dman q - dman q / 2 ^ s * 2 ^ s) := by
  have h1 := zt_floor hq s
  have h2 := h1.shl (k := s) (Nat.le_refl _)
  have h3 := floor_rest (dman q) s
  refine ⟨h1, h2.mono (by omega), ?_⟩
  refine Zt.mono (a := s) ?_ (by omega)
  rw [Zt.iff]
  have h4 : ((dman q - dman q / 2 ^ s * 2 ^ s).natAbs : Int) < ((2 ^ s : Nat) : Int) := by rw [Int.natCast_pow]; show _ < (2 : Int) ^ s; omega
  exact_mod_cast h4
/-- The exponent of the multiples of p bits. -/
def unitE (q : Dyadic) (p : Int) : Int := dtop q - min (max p 1) 4000 + 1
/-- Rounded to p bits. -/
def rto (q : Dyadic) (p mode : Int) : Dyadic := if q = 0 then 0 else grd q (unitE q p) mode
/-- How far multiples of p bits are from one another. -/
def ulpD (q : Dyadic) (p : Int) : Dyadic := if q = 0 then 0 else dof 1 (unitE q p)
/- THE REFERENCE -/
theorem zdiv_parts (m : Int) (K : Nat) (hK : 0 < K) : m / (K : Int) = if zneg m = true ∧ m.natAbs % K ≠ 0 then -((m.natAbs / K + 1 : Nat) : Int) else if zneg m = true then -((m.natAbs / K : Nat) : Int) else ((m.natAbs / K : Nat) : Int) := by
  have h1 := Nat.div_add_mod m.natAbs K
  have h2 := Nat.mod_lt m.natAbs hK
  by_cases h : m < 0
  · have hz : zneg m = true := decide_eq_true h
    have h3 : m = -((m.natAbs : Nat) : Int) := by omega
    rw [hz]
    generalize hq : m.natAbs / K = q at *
    generalize hr : m.natAbs % K = r at *
    have h4 : (m.natAbs : Int) = K * q + r := by rw [← h1]; simp
    by_cases h5 : r = 0
    · rw [if_neg (by simp [h5]), if_pos rfl]
      have h6 : m = (K : Int) * (-(q : Int)) := by rw [h3, h4, h5]; grind
      rw [h6, Int.mul_ediv_cancel_left _ (by omega)]
    · rw [if_pos ⟨rfl, h5⟩]
      have h6 : m = (K : Int) * (-((q + 1 : Nat) : Int)) + ((K : Int) - r) := by rw [h3, h4]; grind
      rw [h6, Int.mul_add_ediv_left _ _ (by omega), Int.ediv_eq_zero_of_lt (by omega) (by omega)]; omega
  · have hz : zneg m = false := decide_eq_false h
    rw [hz, if_neg (by simp), if_neg (by simp)]
    have h3 : m = ((m.natAbs : Nat) : Int) := by omega
    rw [h3]; rfl
theorem len_lt_of {x j k : Nat} (h : x < 2 ^ j) (hj : j ≤ 32 * k) : (ofN x).length ≤ k := len_lt (Nat.lt_of_lt_of_le h (Nat.pow_le_pow_right (by decide) hj))
end Go.Ev.Ar
