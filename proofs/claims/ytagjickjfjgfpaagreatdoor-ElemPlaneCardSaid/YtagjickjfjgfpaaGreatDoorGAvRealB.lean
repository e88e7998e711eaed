/- Contracts of the given functions, on data. Conditions stand in each theorem. -/
import Derived.Test.YtagjickjfjgfpaaGreatDoorGAvReal
import Derived.Test.YtagjickjfjgfpaaGreatDoorGAvDiv
import Derived.Test.YtagjickjfjgfpaaGreatDoorGAvDyL
import Derived.Test.YtagjickjfjgfpaaGreatDoorGEvZ
set_option linter.unusedSimpArgs false
set_option linter.unusedVariables false
namespace Go.Ev.Ar
open Go Go.Ev Go.Proofs

def lo2 (l d : Dyadic) : Dyadic := if d < l then d else l
def hi2 (h d : Dyadic) : Dyadic := if h < d then d else h
theorem lo2_mn (p q : Dyadic) : lo2 p q = mn p q := by unfold lo2 mn; grind
theorem hi2_mx (p q : Dyadic) : hi2 p q = mx p q := by unfold hi2 mx; grind
theorem mn_assoc (p q r : Dyadic) : mn (mn p q) r = mn p (mn q r) := by unfold mn; grind
theorem mx_assoc (p q r : Dyadic) : mx (mx p q) r = mx p (mx q r) := by unfold mx; grind
def LOs (p q r s : Dyadic) : Nat → Dyadic
  | 0 => p
  | 1 => lo2 p q
  | 2 => lo2 (lo2 p q) r
  | _ => lo2 (lo2 (lo2 p q) r) s
def HIs (p q r s : Dyadic) : Nat → Dyadic
  | 0 => p
  | 1 => hi2 p q
  | 2 => hi2 (hi2 p q) r
  | _ => hi2 (hi2 (hi2 p q) r) s
theorem ht_lo2 {a : Nat} {p q : Dyadic} (hp : Ht a p) (hq : Ht a q) : Ht a (lo2 p q) := by unfold lo2; split <;> assumption
theorem ht_hi2 {a : Nat} {p q : Dyadic} (hp : Ht a p) (hq : Ht a q) : Ht a (hi2 p q) := by unfold hi2; split <;> assumption
theorem ht_LOs {a : Nat} {p q r s : Dyadic} (hp : Ht a p) (hq : Ht a q) (hr : Ht a r) (hs : Ht a s) : ∀ i, Ht a (LOs p q r s i)
  | 0 => hp
  | 1 => ht_lo2 hp hq
  | 2 => ht_lo2 (ht_lo2 hp hq) hr
  | _ + 3 => ht_lo2 (ht_lo2 (ht_lo2 hp hq) hr) hs
theorem ht_HIs {a : Nat} {p q r s : Dyadic} (hp : Ht a p) (hq : Ht a q) (hr : Ht a r) (hs : Ht a s) : ∀ i, Ht a (HIs p q r s i)
  | 0 => hp
  | 1 => ht_hi2 hp hq
  | 2 => ht_hi2 (ht_hi2 hp hq) hr
  | _ + 3 => ht_hi2 (ht_hi2 (ht_hi2 hp hq) hr) hs
theorem dsg_sub_lt {p q : Dyadic} : dsg (p - q) < 0 ↔ p < q := by rw [dsg_lt]; grind
theorem dsg_sub_gt {p q : Dyadic} : dsg (p - q) > 0 ↔ q < p := by rw [dsg_gt]; grind
set_option maxHeartbeats 8000000 in
theorem rlMul_is {x y : D} {z w r : Cq} (hx : CxR x z) (hy : CxR y w) (hz : Hc 200000 z) (hw : Hc 200000 w) (h : imul z w = r) : Sim Tryz.prog G0 false 84 [x, y] (cxD r) := by
  subst h
  obtain ⟨h1, h2⟩ := hx
  obtain ⟨h3, h4⟩ := hy
  rename_i p q _ _ _ _ _ _ p' q'
  have m1 : Ht 400000 (p * p') := hz.1.mul hw.1 (by decide)
  have m2 : Ht 400000 (p * q') := hz.1.mul hw.2 (by decide)
  have m3 : Ht 400000 (q * p') := hz.2.mul hw.1 (by decide)
  have m4 : Ht 400000 (q * q') := hz.2.mul hw.2 (by decide)
  have d1 := dmul_sim h1 h3
  have d2 := dmul_sim h1 h4
  have d3 := dmul_sim h2 h3
  have d4 := dmul_sim h2 h4
  have eL : LOs (p * p') (p * q') (q * p') (q * q') 3 = (imul (p, q) (p', q')).1 := by
    show lo2 (lo2 (lo2 (p * p') (p * q')) (q * p')) (q * q') = mn (mn (p * p') (p * q')) (mn (q * p') (q * q'))
    rw [lo2_mn, lo2_mn, lo2_mn, mn_assoc (mn _ _)]
  have eH : HIs (p * p') (p * q') (q * p') (q * q') 3 = (imul (p, q) (p', q')).2 := by
    show hi2 (hi2 (hi2 (p * p') (p * q')) (q * p')) (q * q') = mx (mx (p * p') (p * q')) (mx (q * p') (q * q'))
    rw [hi2_mx, hi2_mx, hi2_mx, mx_assoc (mx _ _)]
  obtain ⟨R, hR⟩ : ∃ R, R = imul (p, q) (p', q') := ⟨_, rfl⟩
  rw [← hR] at eL eH ⊢
  generalize p * p' = a at *
  generalize p * q' = b at *
  generalize q * p' = c at *
  generalize q * q' = d at *
  have gL := ht_LOs m1 m2 m3 m4
  have gH := ht_HIs m1 m2 m3 m4
  refine sim_mk tab_ok Tryz.func84 rfl (by kernel_rfl) rfl ⟨Nat.le_of_ble_eq_true rfl, Nat.le_of_ble_eq_true rfl⟩ ?_
  repeat' ((conv => whnf); first
    | refine CallE.mk _ _ (d1) ?_
    | refine CallE.mk _ _ (d2) ?_
    | refine CallE.mk _ _ (d3) ?_
    | refine CallE.mk _ _ (d4) ?_
    | refine RegE.early (Cd.mk (show regOk _ _ _ _ = true by kernel_rfl) ?_)
    | refine Cd.mk rfl ?_
    | (refine TkE.fL ?_; (conv => whnf); fail_if_success (show forceL _ _))
    | ((with_reducible refine EqE.idS ?_); (refine EqE.fP ?_; (conv => whnf); fail_if_success (show forceL _ _)))
    | refine Cd.mk (Nat.le_of_ble_eq_true rfl) ?_
    | refine Cd.mk (by first | omega | (simp only [length_limbs, length_la]; omega)) ?_)
  refine ⟨[], [4, 6, 35, 36, 37], [4, 5, 6], fun m xs h => ∃ (i : Nat) (lo hi : Dyadic), m = 3 - i ∧ i ≤ 3 ∧ lo = LOs a b c d i ∧ hi = HIs a b c d i ∧
      xs = [.ptr 4 0, .ptr 6 0, .own 5 3 3 3, .d (.int .i64 3), .d (.int .i64 (i : Nat))] ∧ h = [(6, false, dyC lo ++ dyC hi), (5, false, dyC a ++ dyC b ++ dyC c ++ dyC d), (4, false, [.d (.bool false), .d .nil, .d (.int .i64 0), .d (.bool false), .d .nil, .d (.int .i64 0)])],
    ⟨_, _, _, ⟨.inl rfl, rfl, rfl, by first | rfl | (repeat first | exact all_nil _ | refine all_la _ _ _ _ _ ?_)⟩, 0, a, a, rfl, by decide, rfl, rfl, rfl, rfl⟩, ?_⟩
  rintro m xs h ⟨i, lo, hi, rfl, hi3, hlo, hhi, rfl, rfl⟩
  have nL := gL i
  have nH := gH i
  rw [← hlo] at nL
  rw [← hhi] at nH
  have hl : ∀ {u v : Dyadic}, Ht 400000 u → Ht 400000 v → Ht 1048576 (u - v) := fun h k => h.sub k (by decide)
  have i4 : i = 0 ∨ i = 1 ∨ i = 2 ∨ i = 3 := by omega
  rcases i4 with rfl | rfl | rfl | rfl
  · have sL : LOs a b c d 1 = lo2 lo b := by rw [hlo]; rfl
    have sH : HIs a b c d 1 = hi2 hi b := by rw [hhi]; rfl
    repeat' ((conv => whnf); first
      | with_reducible refine CallX.data ?_
      | refine CallE.mk _ _ (dcmp_sim (p := b) (q := lo) (.of (m2.mono (by decide))) (.of (nL.mono (by decide))) (hl m2 nL)) ?_
      | refine CallE.mk _ _ (dcmp_sim (p := b) (q := hi) (.of (m2.mono (by decide))) (.of (nH.mono (by decide))) (hl m2 nH)) ?_
      | refine RegE.early (Cd.mk (show regOk _ _ _ _ = true by kernel_rfl) ?_)
      | refine Cd.mk rfl ?_
      | refine Br.t ?_
      | with_reducible refine Br.dec (fun _ => ?_) (fun _ => ?_)
      | (refine TkE.fL ?_; (conv => whnf); fail_if_success (show forceL _ _))
      | refine LoopEnd.go _ _ ⟨.inl rfl, rfl, rfl, by first | rfl | (repeat first | exact all_nil _ | refine all_la _ _ _ _ _ ?_)⟩ ?_
      | ((with_reducible refine EqE.idW ?_); with_reducible refine EqE.mk _ (n_succ _ (by omega)) ?_)
      | ((with_reducible refine EqE.idS ?_); (refine EqE.fP ?_; (conv => whnf); fail_if_success (show forceL _ _)))
      | refine Cd.mk (Nat.le_of_ble_eq_true rfl) ?_
      | refine Cd.mk (by first | omega | (simp only [length_limbs, length_la]; omega)) ?_)
    · rename_i g1 g2
      exact ⟨_, ⟨1, b, b, rfl, by decide, by rw [sL]; unfold lo2; rw [if_pos (dsg_sub_lt.1 g1)], by rw [sH]; unfold hi2; rw [if_pos (dsg_sub_gt.1 g2)], rfl, rfl⟩, by decide⟩
    · rename_i g1 g2
      exact ⟨_, ⟨1, b, hi, rfl, by decide, by rw [sL]; unfold lo2; rw [if_pos (dsg_sub_lt.1 g1)], by rw [sH]; unfold hi2; rw [if_neg (fun k => g2 (dsg_sub_gt.2 k))], rfl, rfl⟩, by decide⟩
    · rename_i g1 g2
      exact ⟨_, ⟨1, lo, b, rfl, by decide, by rw [sL]; unfold lo2; rw [if_neg (fun k => g1 (dsg_sub_lt.2 k))], by rw [sH]; unfold hi2; rw [if_pos (dsg_sub_gt.1 g2)], rfl, rfl⟩, by decide⟩
    · rename_i g1 g2
      exact ⟨_, ⟨1, lo, hi, rfl, by decide, by rw [sL]; unfold lo2; rw [if_neg (fun k => g1 (dsg_sub_lt.2 k))], by rw [sH]; unfold hi2; rw [if_neg (fun k => g2 (dsg_sub_gt.2 k))], rfl, rfl⟩, by decide⟩
  · have sL : LOs a b c d 2 = lo2 lo c := by rw [hlo]; rfl
    have sH : HIs a b c d 2 = hi2 hi c := by rw [hhi]; rfl
    repeat' ((conv => whnf); first
      | with_reducible refine CallX.data ?_
      | refine CallE.mk _ _ (dcmp_sim (p := c) (q := lo) (.of (m3.mono (by decide))) (.of (nL.mono (by decide))) (hl m3 nL)) ?_
      | refine CallE.mk _ _ (dcmp_sim (p := c) (q := hi) (.of (m3.mono (by decide))) (.of (nH.mono (by decide))) (hl m3 nH)) ?_
      | refine RegE.early (Cd.mk (show regOk _ _ _ _ = true by kernel_rfl) ?_)
      | refine Cd.mk rfl ?_
      | refine Br.t ?_
      | with_reducible refine Br.dec (fun _ => ?_) (fun _ => ?_)
      | (refine TkE.fL ?_; (conv => whnf); fail_if_success (show forceL _ _))
      | refine LoopEnd.go _ _ ⟨.inl rfl, rfl, rfl, by first | rfl | (repeat first | exact all_nil _ | refine all_la _ _ _ _ _ ?_)⟩ ?_
      | ((with_reducible refine EqE.idW ?_); with_reducible refine EqE.mk _ (n_succ _ (by omega)) ?_)
      | ((with_reducible refine EqE.idS ?_); (refine EqE.fP ?_; (conv => whnf); fail_if_success (show forceL _ _)))
      | refine Cd.mk (Nat.le_of_ble_eq_true rfl) ?_
      | refine Cd.mk (by first | omega | (simp only [length_limbs, length_la]; omega)) ?_)
    · rename_i g1 g2
      exact ⟨_, ⟨2, c, c, rfl, by decide, by rw [sL]; unfold lo2; rw [if_pos (dsg_sub_lt.1 g1)], by rw [sH]; unfold hi2; rw [if_pos (dsg_sub_gt.1 g2)], rfl, rfl⟩, by decide⟩
    · rename_i g1 g2
      exact ⟨_, ⟨2, c, hi, rfl, by decide, by rw [sL]; unfold lo2; rw [if_pos (dsg_sub_lt.1 g1)], by rw [sH]; unfold hi2; rw [if_neg (fun k => g2 (dsg_sub_gt.2 k))], rfl, rfl⟩, by decide⟩
    · rename_i g1 g2
      exact ⟨_, ⟨2, lo, c, rfl, by decide, by rw [sL]; unfold lo2; rw [if_neg (fun k => g1 (dsg_sub_lt.2 k))], by rw [sH]; unfold hi2; rw [if_pos (dsg_sub_gt.1 g2)], rfl, rfl⟩, by decide⟩
    · rename_i g1 g2
      exact ⟨_, ⟨2, lo, hi, rfl, by decide, by rw [sL]; unfold lo2; rw [if_neg (fun k => g1 (dsg_sub_lt.2 k))], by rw [sH]; unfold hi2; rw [if_neg (fun k => g2 (dsg_sub_gt.2 k))], rfl, rfl⟩, by decide⟩
  · have sL : LOs a b c d 3 = lo2 lo d := by rw [hlo]; rfl
    have sH : HIs a b c d 3 = hi2 hi d := by rw [hhi]; rfl
    repeat' ((conv => whnf); first
      | with_reducible refine CallX.data ?_
      | refine CallE.mk _ _ (dcmp_sim (p := d) (q := lo) (.of (m4.mono (by decide))) (.of (nL.mono (by decide))) (hl m4 nL)) ?_
      | refine CallE.mk _ _ (dcmp_sim (p := d) (q := hi) (.of (m4.mono (by decide))) (.of (nH.mono (by decide))) (hl m4 nH)) ?_
      | refine RegE.early (Cd.mk (show regOk _ _ _ _ = true by kernel_rfl) ?_)
      | refine Cd.mk rfl ?_
      | refine Br.t ?_
      | with_reducible refine Br.dec (fun _ => ?_) (fun _ => ?_)
      | (refine TkE.fL ?_; (conv => whnf); fail_if_success (show forceL _ _))
      | refine LoopEnd.go _ _ ⟨.inl rfl, rfl, rfl, by first | rfl | (repeat first | exact all_nil _ | refine all_la _ _ _ _ _ ?_)⟩ ?_
      | ((with_reducible refine EqE.idW ?_); with_reducible refine EqE.mk _ (n_succ _ (by omega)) ?_)
      | ((with_reducible refine EqE.idS ?_); (refine EqE.fP ?_; (conv => whnf); fail_if_success (show forceL _ _)))
      | refine Cd.mk (Nat.le_of_ble_eq_true rfl) ?_
      | refine Cd.mk (by first | omega | (simp only [length_limbs, length_la]; omega)) ?_)
    · rename_i g1 g2
      exact ⟨_, ⟨3, d, d, rfl, by decide, by rw [sL]; unfold lo2; rw [if_pos (dsg_sub_lt.1 g1)], by rw [sH]; unfold hi2; rw [if_pos (dsg_sub_gt.1 g2)], rfl, rfl⟩, by decide⟩
    · rename_i g1 g2
      exact ⟨_, ⟨3, d, hi, rfl, by decide, by rw [sL]; unfold lo2; rw [if_pos (dsg_sub_lt.1 g1)], by rw [sH]; unfold hi2; rw [if_neg (fun k => g2 (dsg_sub_gt.2 k))], rfl, rfl⟩, by decide⟩
    · rename_i g1 g2
      exact ⟨_, ⟨3, lo, d, rfl, by decide, by rw [sL]; unfold lo2; rw [if_neg (fun k => g1 (dsg_sub_lt.2 k))], by rw [sH]; unfold hi2; rw [if_pos (dsg_sub_gt.1 g2)], rfl, rfl⟩, by decide⟩
    · rename_i g1 g2
      exact ⟨_, ⟨3, lo, hi, rfl, by decide, by rw [sL]; unfold lo2; rw [if_neg (fun k => g1 (dsg_sub_lt.2 k))], by rw [sH]; unfold hi2; rw [if_neg (fun k => g2 (dsg_sub_gt.2 k))], rfl, rfl⟩, by decide⟩
  · rw [eL] at hlo
    rw [eH] at hhi
    subst hlo hhi
    repeat' ((conv => whnf); first
      | refine RegE.early (Cd.mk (show regOk _ _ _ _ = true by kernel_rfl) ?_)
      | refine Cd.mk rfl ?_
      | refine Br.f ?_
      | (refine TkE.fL ?_; (conv => whnf); fail_if_success (show forceL _ _))
      | refine Res.mk ?_
      | ((with_reducible refine EqE.idS ?_); (refine EqE.fP ?_; (conv => whnf); fail_if_success (show forceL _ _)))
      | refine Cd.mk (Nat.le_of_ble_eq_true rfl) ?_)
    rfl
end Go.Ev.Ar

namespace Go.Ev.Ar
open Go Go.Ev Go.Proofs

theorem nbits_at {k : Nat} {n : Int} (hl : (ofN k).length < 2^32) (h : (nb k : Int) = n) : Sim Tryz.prog G0 true 195 [sl (ofN k)] (.int .i64 n) := by
  have s := bits_sim (ofN k) hl
  rwa [nv_ofN, h] at s
theorem nup_at {k j : Nat} (n : Int) (hl : (ofN k).length < 2^30) (hn : n ≤ 2^30) (h : k * 2 ^ n.toNat = j) : Sim Tryz.prog G0 false 216 [sl (ofN k), .int .i64 n] (sl (ofN j)) := by
  have s := up_sim (ofN k) n hl hn
  rwa [nv_ofN, h] at s
theorem ncmp_at {a b : Nat} {s : Int} (ha : (ofN a).length < 2^32) (hb : (ofN b).length < 2^32) (h : cmpN a b = s) : Sim Tryz.prog G0 true 225 [sl (ofN a), sl (ofN b)] (.int .i64 s) := by
  have s := cmp_sim (ofN a) (ofN b) ha hb
  rwa [nv_ofN, nv_ofN, h] at s
theorem qtold_is {x : D} {m : Int} {r : Dyadic} (exact : Bool) (e mode : Int) (hx : ZR x m) (hm : Zt 134000000 m) (h1 : -1099511627776 ≤ e) (h2 : e ≤ 1099511627776) (h : dof (if mode = 1 ∧ exact = false then m + 1 else m) e = r) : Sim Tryz.prog G0 false 227 [x, .bool exact, .int .i64 e, .int .i64 mode] (dyD r) := by
  have hm1 : Zt 134217728 (m + 1) := hm.add (Zt.small (n := 1) (h := 64) (by decide) (by decide)) (by decide)
  have hz := hx
  obtain ⟨b, l, hl⟩ := hx
  refine sim_mk tab_ok Tryz.func227 rfl (by kernel_rfl) rfl ⟨Nat.le_of_ble_eq_true rfl, Nat.le_of_ble_eq_true rfl⟩ ?_
  by_cases c : mode = 1
  · cases exact
    · rw [if_pos ⟨c, rfl⟩] at h
      repeat' ((conv => whnf); first
        | refine RegE.early (Cd.mk (show regOk _ _ _ _ = true by kernel_rfl) ?_)
        | refine Cd.mk rfl ?_)
      refine wp_scope tab_ok 0 rfl [2, 4, 8] [4, 8] (fun m xs h => m = 0 ∧ xs = [.d (.int .i64 e), .ptr 4 0, .ptr 8 0] ∧ h = [(8, false, zeA), (4, false, [.d (.bool b), .d (sl l)])]) ?_ ?_
      · repeat' ((conv => whnf); first
          | with_reducible refine Br.dec (fun _ => ?_) (fun h => absurd (by omega) h)
          | refine RegE.early (Cd.mk (show regOk _ _ _ _ = true by kernel_rfl) ?_)
          | refine Cd.mk rfl ?_
          | refine Br.t ?_)
        exact ⟨_, _, _, ⟨.inl rfl, rfl, rfl, by first | rfl | (repeat first | exact all_nil _ | refine all_la _ _ _ _ _ ?_)⟩, rfl, rfl, rfl⟩
      · rintro m xs h ⟨rfl, rfl, rfl⟩
        repeat' ((conv => whnf); first
          | refine CallE.mk _ _ (zof_sim 1 (by decide) (by decide)) ?_
          | refine CallE.mk _ _ (zadd_sim hz (cz (n := 1) (by decide)).1) ?_
          | refine CallE.mk _ _ (draw_sim' (.of hm1) hm1 h1 h2 h) ?_
          | refine RegE.early (Cd.mk (show regOk _ _ _ _ = true by kernel_rfl) ?_)
          | refine Cd.mk rfl ?_
          | (refine TkE.fL ?_; (conv => whnf); fail_if_success (show forceL _ _))
          | refine Res.mk ?_
          | ((with_reducible refine EqE.idS ?_); (refine EqE.fP ?_; (conv => whnf); fail_if_success (show forceL _ _)))
          | refine Cd.mk (Nat.le_of_ble_eq_true rfl) ?_)
        rfl
    · rw [if_neg (fun g => absurd g.2 (by decide))] at h
      repeat' ((conv => whnf); first
        | refine RegE.early (Cd.mk (show regOk _ _ _ _ = true by kernel_rfl) ?_)
        | refine Cd.mk rfl ?_)
      refine wp_scope0 tab_ok ?_
      repeat' ((conv => whnf); first
        | with_reducible refine CallX.data ?_
        | with_reducible refine Br.dec (fun _ => ?_) (fun h => absurd (by omega) h)
        | refine CallE.mk _ _ (draw_sim' hz (hm.mono (by decide)) h1 h2 h) ?_
        | refine RegE.early (Cd.mk (show regOk _ _ _ _ = true by kernel_rfl) ?_)
        | refine Cd.mk rfl ?_
        | refine Br.t ?_
        | refine Br.f ?_
        | (refine TkE.fL ?_; (conv => whnf); fail_if_success (show forceL _ _))
        | refine Res.mk ?_
        | ((with_reducible refine EqE.idS ?_); (refine EqE.fP ?_; (conv => whnf); fail_if_success (show forceL _ _)))
        | refine Cd.mk (Nat.le_of_ble_eq_true rfl) ?_)
      rfl
  · rw [if_neg (fun g => c g.1)] at h
    repeat' ((conv => whnf); first
      | refine RegE.early (Cd.mk (show regOk _ _ _ _ = true by kernel_rfl) ?_)
      | refine Cd.mk rfl ?_)
    refine wp_scope0 tab_ok ?_
    repeat' ((conv => whnf); first
      | with_reducible refine CallX.data ?_
      | with_reducible refine Br.dec (fun h => absurd h (by omega)) (fun _ => ?_)
      | refine CallE.mk _ _ (draw_sim' hz (hm.mono (by decide)) h1 h2 h) ?_
      | refine RegE.early (Cd.mk (show regOk _ _ _ _ = true by kernel_rfl) ?_)
      | refine Cd.mk rfl ?_
      | refine Br.f ?_
      | (refine TkE.fL ?_; (conv => whnf); fail_if_success (show forceL _ _))
      | refine Res.mk ?_
      | ((with_reducible refine EqE.idS ?_); (refine EqE.fP ?_; (conv => whnf); fail_if_success (show forceL _ _)))
      | refine Cd.mk (Nat.le_of_ble_eq_true rfl) ?_)
    rfl
/-- What is reckoned on the way to a quotient. -/
structure QC (X Y : Dyadic) (P mode T : Int) : Prop where
  t1 : Sim Tryz.prog G0 true 212 [dyD X] (.int .i64 (dtop X))
  t2 : Sim Tryz.prog G0 true 212 [dyD Y] (.int .i64 (dtop Y))
  b1 : Sim Tryz.prog G0 true 195 [sl (ofN (dman X).natAbs)] (.int .i64 (nb (dman X).natAbs))
  b2 : Sim Tryz.prog G0 true 195 [sl (ofN (dman Y).natAbs)] (.int .i64 (nb (dman Y).natAbs))
  u1 : Sim Tryz.prog G0 false 216 [sl (ofN (dman X).natAbs), .int .i64 (0 - ((nb (dman X).natAbs : Int) - nb (dman Y).natAbs))] (sl (ofN ((dman X).natAbs * 2 ^ (-((nb (dman X).natAbs : Int) - nb (dman Y).natAbs)).toNat)))
  u2 : Sim Tryz.prog G0 false 216 [sl (ofN (dman Y).natAbs), .int .i64 ((nb (dman X).natAbs : Int) - nb (dman Y).natAbs)] (sl (ofN ((dman Y).natAbs * 2 ^ ((nb (dman X).natAbs : Int) - nb (dman Y).natAbs).toNat)))
  cm : Sim Tryz.prog G0 true 225 [sl (ofN ((dman X).natAbs * 2 ^ (-((nb (dman X).natAbs : Int) - nb (dman Y).natAbs)).toNat)), sl (ofN ((dman Y).natAbs * 2 ^ ((nb (dman X).natAbs : Int) - nb (dman Y).natAbs).toNat))] (.int .i64 (cmpN ((dman X).natAbs * 2 ^ (-((nb (dman X).natAbs : Int) - nb (dman Y).natAbs)).toNat) ((dman Y).natAbs * 2 ^ ((nb (dman X).natAbs : Int) - nb (dman Y).natAbs).toNat)))
  v1 : Sim Tryz.prog G0 false 186 [zD (dman X), .int .i64 (dexp X - dexp Y - (T - min (max P 1) 4000 + 1))] (zD (qA X Y P))
  v2 : Sim Tryz.prog G0 false 186 [zD (dman Y), .int .i64 (0 - (dexp X - dexp Y - (T - min (max P 1) 4000 + 1)))] (zD (qB X Y P))
  dv : Sim Tryz.prog G0 false 226 [zD (qA X Y P), zD (qB X Y P)] (.tup [zD (qA X Y P / qB X Y P), zD (qA X Y P % qB X Y P), .bool true])
  sg : Sim Tryz.prog G0 true 207 [zD (qA X Y P % qB X Y P)] (.int .i64 (Int.sign (qA X Y P % qB X Y P)))
  td : Sim Tryz.prog G0 false 227 [zD (qA X Y P / qB X Y P), .bool (decide (Int.sign (qA X Y P % qB X Y P) = 0)), .int .i64 (T - min (max P 1) 4000 + 1), .int .i64 mode] (dyD (qpos X Y P mode))
  r1 : -100000 ≤ dtop X ∧ dtop X ≤ 100000
  r2 : -100000 ≤ dtop Y ∧ dtop Y ≤ 100000
  r3 : nb (dman X).natAbs ≤ 200000
  r4 : nb (dman Y).natAbs ≤ 200000
  r5 : -100000 ≤ dexp X ∧ dexp X ≤ 100000
  r6 : -100000 ≤ dexp Y ∧ dexp Y ≤ 100000
theorem QC.of {X Y : Dyadic} {P mode T : Int} (hX : Ht 100000 X) (hY : Ht 100000 Y) (h0 : X ≠ 0) (hpos : 0 < Y) (hT : qtop X Y = T) : QC X Y P mode T := by
  obtain ⟨x1, x2, x3⟩ := hX.parts
  obtain ⟨y1, y2, y3⟩ := hY.parts
  have tx := dtop_bd hX
  have ty := dtop_bd hY
  have tt := qtop_bd hX hY
  have lx := x1.len (k := 6250) (by decide)
  have ly := y1.len (k := 6250) (by decide)
  have nx := x1.nb
  have ny := y1.nb
  have hE : qexp X Y P = T - min (max P 1) 4000 + 1 := by unfold qexp; rw [hT]
  have eA : dman X * 2 ^ (dexp X - dexp Y - (T - min (max P 1) 4000 + 1)).toNat = qA X Y P := by unfold qA; rw [hE]
  have eB : dman Y * 2 ^ (-(dexp X - dexp Y - (T - min (max P 1) 4000 + 1))).toNat = qB X Y P := by unfold qB; rw [hE]
  have zA : Zt 900000 (qA X Y P) := eA ▸ x1.shl (by omega)
  have zB : Zt 900000 (qB X Y P) := eB ▸ y1.shl (by omega)
  have pB : 0 < qB X Y P := by unfold qB; exact Int.mul_pos (dman_pos.2 hpos) (Int.pow_pos (by decide))
  have zq : Zt 900000 (qA X Y P / qB X Y P) := zA.le (Int.natAbs_ediv_le_natAbs _ _)
  have zr : Zt 900000 (qA X Y P % qB X Y P) := zB.le (by have := Int.emod_nonneg (qA X Y P) (Int.ne_of_gt pB); have := Int.emod_lt_of_pos (qA X Y P) pB; omega)
  have l1 : (ofN ((dman X).natAbs * 2 ^ (-((nb (dman X).natAbs : Int) - nb (dman Y).natAbs)).toNat)).length ≤ 20000 := by
    have h : Zt 400000 (dman X * 2 ^ (-((nb (dman X).natAbs : Int) - nb (dman Y).natAbs)).toNat) := x1.shl (by omega)
    have h2 := h.len (k := 20000) (by decide)
    rwa [Int.natAbs_mul, Int.natAbs_pow] at h2
  have l2 : (ofN ((dman Y).natAbs * 2 ^ ((nb (dman X).natAbs : Int) - nb (dman Y).natAbs).toNat)).length ≤ 20000 := by
    have h : Zt 400000 (dman Y * 2 ^ ((nb (dman X).natAbs : Int) - nb (dman Y).natAbs).toNat) := y1.shl (by omega)
    have h2 := h.len (k := 20000) (by decide)
    rwa [Int.natAbs_mul, Int.natAbs_pow] at h2
  refine ⟨dtop_sim (.of (hX.mono (by decide))), dtop_sim (.of (hY.mono (by decide))), nbits_at (by omega) rfl, nbits_at (by omega) rfl, nup_at _ (by omega) (by omega) (by rw [Int.zero_sub]), nup_at _ (by omega) (by omega) rfl, ncmp_at (by omega) (by omega) rfl, ?_, ?_, ?_, ?_, ?_, by omega, by omega, by omega, by omega, by omega, by omega⟩
  · rw [← eA]; exact zup_sim _ (.of (x1.mono (by decide))) (by omega)
  · rw [← eB, Int.zero_sub]; exact zup_sim _ (.of (y1.mono (by decide))) (by omega)
  · exact zdiv_sim (.of (zA.mono (by decide))) (.of (zB.mono (by decide))) pB (zA.mono (by decide)) (zB.mono (by decide))
  · exact zsign_sim (.of (zr.mono (by decide)))
  · refine qtold_is _ _ _ (.of (zq.mono (by decide))) (zq.mono (by decide)) (by omega) (by omega) ?_
    unfold qpos
    rw [hE]
    congr 1
    by_cases c : qA X Y P % qB X Y P = 0
    · rw [if_neg (fun g => absurd g.2 (by rw [c]; decide)), if_neg (fun g => g.2 c)]
    · have e : decide (Int.sign (qA X Y P % qB X Y P) = 0) = false := decide_eq_false (fun g => c (Int.sign_eq_zero_iff_zero.1 g))
      rw [e]
      by_cases c2 : mode = 1
      · rw [if_pos ⟨c2, rfl⟩, if_pos ⟨c2, c⟩]
      · rw [if_neg (fun g => c2 g.1), if_neg (fun g => c2 g.1)]
theorem cmpN_lt {a b : Nat} : cmpN a b < 0 ↔ a < b := by unfold cmpN; split <;> (try split) <;> omega
set_option maxHeartbeats 4000000 in
theorem qDiv_is {x y : D} {p q r : Dyadic} {c : Int} (P mode : Int) (hx : DyR x p) (hy : DyR y q) (hp : Ht 100000 p) (hq : Ht 100000 q) (h : qdiv p q P mode = r) (hc : (if q = 0 then 11 else 0) = c) :
    Sim Tryz.prog G0 false 205 [x, y, .int .i64 P, .int .i64 mode] (.tup [dyD r, .int .i64 c]) := by
  have kx := hx
  have ky := hy
  have sp := dsign_sim (.of (hp.mono (show 100000 ≤ 1048576 by decide)))
  have sq := dsign_sim (.of (hq.mono (show 100000 ≤ 1048576 by decide)))
  have np := dneg_sim (.of (hp.mono (show 100000 ≤ 1048576 by decide)))
  have nq := dneg_sim (.of (hq.mono (show 100000 ≤ 1048576 by decide)))
  obtain ⟨b, l, e, hl, h1, h2, _⟩ := hx
  obtain ⟨d, k, f, hk, h3, h4, _⟩ := hy
  generalize dof (zv b l) e = p at *
  generalize dof (zv d k) f = q at *
  by_cases q0 : q = 0
  · have e1 : qdiv p q P mode = 0 := by unfold qdiv; rw [if_pos q0]
    rw [if_pos q0] at hc
    have sq0 := dsg_eq.2 q0
    rw [sq0] at sq
    refine sim_mk tab_ok Tryz.func205 rfl (by kernel_rfl) rfl ⟨Nat.le_of_ble_eq_true rfl, Nat.le_of_ble_eq_true rfl⟩ ?_
    repeat' ((conv => whnf); first
      | with_reducible refine CallX.data ?_
      | refine CallE.mk _ _ (dnorm_sim kx) ?_
      | refine CallE.mk _ _ (dnorm_sim ky) ?_
      | refine CallE.mk _ _ (sq) ?_
      | refine RegE.early (Cd.mk (show regOk _ _ _ _ = true by kernel_rfl) ?_)
      | refine Cd.mk rfl ?_
      | refine Br.t ?_
      | (refine TkE.fL ?_; (conv => whnf); fail_if_success (show forceL _ _))
      | refine Res.mk ?_
      | ((with_reducible refine EqE.idS ?_); (refine EqE.fP ?_; (conv => whnf); fail_if_success (show forceL _ _)))
      | refine Cd.mk (Nat.le_of_ble_eq_true rfl) ?_)
    rw [← h, e1, ← hc, ← dyD_zero]; rfl
  by_cases p0 : p = 0
  · have e1 : qdiv p q P mode = 0 := by unfold qdiv; rw [if_neg q0, if_pos p0]
    rw [if_neg q0] at hc
    have sp0 := dsg_eq.2 p0
    have sq0 : dsg q ≠ 0 := fun g => q0 (dsg_eq.1 g)
    rw [sp0] at sp
    refine sim_mk tab_ok Tryz.func205 rfl (by kernel_rfl) rfl ⟨Nat.le_of_ble_eq_true rfl, Nat.le_of_ble_eq_true rfl⟩ ?_
    repeat' ((conv => whnf); first
      | with_reducible refine CallX.data ?_
      | with_reducible refine Br.dec (fun h => absurd h (by omega)) (fun _ => ?_)
      | refine CallE.mk _ _ (dnorm_sim kx) ?_
      | refine CallE.mk _ _ (dnorm_sim ky) ?_
      | refine CallE.mk _ _ (sp) ?_
      | refine CallE.mk _ _ (sq) ?_
      | refine RegE.early (Cd.mk (show regOk _ _ _ _ = true by kernel_rfl) ?_)
      | refine Cd.mk rfl ?_
      | refine Br.t ?_
      | (refine TkE.fL ?_; (conv => whnf); fail_if_success (show forceL _ _))
      | refine Res.mk ?_
      | ((with_reducible refine EqE.idS ?_); (refine EqE.fP ?_; (conv => whnf); fail_if_success (show forceL _ _)))
      | refine Cd.mk (Nat.le_of_ble_eq_true rfl) ?_)
    rw [← h, e1, ← hc, ← dyD_zero]; rfl
  have sp0 : dsg p ≠ 0 := fun g => p0 (dsg_eq.1 g)
  have sq0 : dsg q ≠ 0 := fun g => q0 (dsg_eq.1 g)
  rw [if_neg q0] at hc
  rcases Classical.em (q < 0) with hqn | hqn
  · have zn : zneg (dman q) = true := decide_eq_true (dman_lt_zero.2 hqn)
    rw [qdiv_neg P mode p0 hqn] at h
    subst h
    by_cases c : (dman (-p)).natAbs * 2 ^ (-((nb (dman (-p)).natAbs : Int) - nb (dman (-q)).natAbs)).toNat < (dman (-q)).natAbs * 2 ^ ((nb (dman (-p)).natAbs : Int) - nb (dman (-q)).natAbs).toNat
    · have Q : QC (-p) (-q) P mode (dtop (-p) - dtop (-q) - 1) := QC.of (hp.neg) (hq.neg) (fun g => p0 (by grind)) (show 0 < -q by grind) (by unfold qtop; rw [if_pos c])
      have cc := cmpN_lt.2 c
      obtain ⟨t1, t2, b1, b2, u1, u2, cm, v1, v2, dv, sg, td, r1, r2, r3, r4, r5, r6⟩ := Q
      generalize qpos (-p) (-q) P mode = r at *
      generalize qA (-p) (-q) P / qB (-p) (-q) P = A at *
      generalize qA (-p) (-q) P % qB (-p) (-q) P = B at *
      refine sim_mk tab_ok Tryz.func205 rfl (by kernel_rfl) rfl ⟨Nat.le_of_ble_eq_true rfl, Nat.le_of_ble_eq_true rfl⟩ ?_
      repeat' ((conv => whnf); first
        | with_reducible refine CallX.data ?_
        | with_reducible refine Br.dec (fun h => absurd h (by omega)) (fun _ => ?_)
        | with_reducible refine Br.dec (fun _ => ?_) (fun h => absurd (by omega) h)
        | refine Br.mk (fun _ => ?_) (fun g => absurd (zn.symm.trans g) (by decide))
        | refine CallE.mk _ _ (dnorm_sim kx) ?_
        | refine CallE.mk _ _ (dnorm_sim ky) ?_
        | refine CallE.mk _ _ (sp) ?_
        | refine CallE.mk _ _ (sq) ?_
        | refine CallE.mk _ _ (np) ?_
        | refine CallE.mk _ _ (nq) ?_
        | refine CallE.mk _ _ (t1) ?_
        | refine CallE.mk _ _ (t2) ?_
        | refine CallE.mk _ _ (b1) ?_
        | refine CallE.mk _ _ (b2) ?_
        | refine CallE.mk _ _ (u1) ?_
        | refine CallE.mk _ _ (u2) ?_
        | refine CallE.mk _ _ (cm) ?_
        | refine CallE.mk _ _ (roHeld_sim _) ?_
        | refine CallE.mk _ _ (v1) ?_
        | refine CallE.mk _ _ (v2) ?_
        | refine CallE.mk _ _ (dv) ?_
        | refine CallE.mk _ _ (sg) ?_
        | refine CallE.mk _ _ (td) ?_
        | refine RegE.early (Cd.mk (show regOk _ _ _ _ = true by kernel_rfl) ?_)
        | refine Cd.mk rfl ?_
        | refine NthE.mk _ rfl ?_
        | (refine TkE.fL ?_; (conv => whnf); fail_if_success (show forceL _ _))
        | refine Res.mk ?_
        | ((with_reducible refine EqE.idW ?_); refine EqE.mk _ (wrap_in (by omega) (by omega)) ?_)
        | ((with_reducible refine EqE.idS ?_); (refine EqE.fP ?_; (conv => whnf); fail_if_success (show forceL _ _)))
        | refine Cd.mk (Nat.le_of_ble_eq_true rfl) ?_)
      rw [← hc]; rfl
    · have Q : QC (-p) (-q) P mode (dtop (-p) - dtop (-q)) := QC.of (hp.neg) (hq.neg) (fun g => p0 (by grind)) (show 0 < -q by grind) (by unfold qtop; rw [if_neg c, Int.sub_zero])
      have cc := fun g => c (cmpN_lt.1 g)
      obtain ⟨t1, t2, b1, b2, u1, u2, cm, v1, v2, dv, sg, td, r1, r2, r3, r4, r5, r6⟩ := Q
      generalize qpos (-p) (-q) P mode = r at *
      generalize qA (-p) (-q) P / qB (-p) (-q) P = A at *
      generalize qA (-p) (-q) P % qB (-p) (-q) P = B at *
      refine sim_mk tab_ok Tryz.func205 rfl (by kernel_rfl) rfl ⟨Nat.le_of_ble_eq_true rfl, Nat.le_of_ble_eq_true rfl⟩ ?_
      repeat' ((conv => whnf); first
        | with_reducible refine CallX.data ?_
        | with_reducible refine Br.dec (fun h => absurd h (by omega)) (fun _ => ?_)
        | refine Br.mk (fun _ => ?_) (fun g => absurd (zn.symm.trans g) (by decide))
        | refine CallE.mk _ _ (dnorm_sim kx) ?_
        | refine CallE.mk _ _ (dnorm_sim ky) ?_
        | refine CallE.mk _ _ (sp) ?_
        | refine CallE.mk _ _ (sq) ?_
        | refine CallE.mk _ _ (np) ?_
        | refine CallE.mk _ _ (nq) ?_
        | refine CallE.mk _ _ (t1) ?_
        | refine CallE.mk _ _ (t2) ?_
        | refine CallE.mk _ _ (b1) ?_
        | refine CallE.mk _ _ (b2) ?_
        | refine CallE.mk _ _ (u1) ?_
        | refine CallE.mk _ _ (u2) ?_
        | refine CallE.mk _ _ (cm) ?_
        | refine CallE.mk _ _ (roHeld_sim _) ?_
        | refine CallE.mk _ _ (v1) ?_
        | refine CallE.mk _ _ (v2) ?_
        | refine CallE.mk _ _ (dv) ?_
        | refine CallE.mk _ _ (sg) ?_
        | refine CallE.mk _ _ (td) ?_
        | refine RegE.early (Cd.mk (show regOk _ _ _ _ = true by kernel_rfl) ?_)
        | refine Cd.mk rfl ?_
        | refine NthE.mk _ rfl ?_
        | (refine TkE.fL ?_; (conv => whnf); fail_if_success (show forceL _ _))
        | refine Res.mk ?_
        | ((with_reducible refine EqE.idW ?_); refine EqE.mk _ (wrap_in (by omega) (by omega)) ?_)
        | ((with_reducible refine EqE.idS ?_); (refine EqE.fP ?_; (conv => whnf); fail_if_success (show forceL _ _)))
        | refine Cd.mk (Nat.le_of_ble_eq_true rfl) ?_)
      rw [← hc]; rfl
  · have hq1 : 0 < q := by grind
    have zn : zneg (dman q) = false := decide_eq_false (fun g => hqn (dman_lt_zero.1 g))
    rw [qdiv_pos P mode p0 hq1] at h
    subst h
    by_cases c : (dman p).natAbs * 2 ^ (-((nb (dman p).natAbs : Int) - nb (dman q).natAbs)).toNat < (dman q).natAbs * 2 ^ ((nb (dman p).natAbs : Int) - nb (dman q).natAbs).toNat
    · have Q : QC p q P mode (dtop p - dtop q - 1) := QC.of (hp) (hq) (p0) (hq1) (by unfold qtop; rw [if_pos c])
      have cc := cmpN_lt.2 c
      obtain ⟨t1, t2, b1, b2, u1, u2, cm, v1, v2, dv, sg, td, r1, r2, r3, r4, r5, r6⟩ := Q
      generalize qpos p q P mode = r at *
      generalize qA p q P / qB p q P = A at *
      generalize qA p q P % qB p q P = B at *
      refine sim_mk tab_ok Tryz.func205 rfl (by kernel_rfl) rfl ⟨Nat.le_of_ble_eq_true rfl, Nat.le_of_ble_eq_true rfl⟩ ?_
      repeat' ((conv => whnf); first
        | with_reducible refine CallX.data ?_
        | with_reducible refine Br.dec (fun h => absurd h (by omega)) (fun _ => ?_)
        | with_reducible refine Br.dec (fun _ => ?_) (fun h => absurd (by omega) h)
        | refine Br.mk (fun g => absurd (zn.symm.trans g) (by decide)) (fun _ => ?_)
        | refine CallE.mk _ _ (dnorm_sim kx) ?_
        | refine CallE.mk _ _ (dnorm_sim ky) ?_
        | refine CallE.mk _ _ (sp) ?_
        | refine CallE.mk _ _ (sq) ?_
        | refine CallE.mk _ _ (t1) ?_
        | refine CallE.mk _ _ (t2) ?_
        | refine CallE.mk _ _ (b1) ?_
        | refine CallE.mk _ _ (b2) ?_
        | refine CallE.mk _ _ (u1) ?_
        | refine CallE.mk _ _ (u2) ?_
        | refine CallE.mk _ _ (cm) ?_
        | refine CallE.mk _ _ (roHeld_sim _) ?_
        | refine CallE.mk _ _ (v1) ?_
        | refine CallE.mk _ _ (v2) ?_
        | refine CallE.mk _ _ (dv) ?_
        | refine CallE.mk _ _ (sg) ?_
        | refine CallE.mk _ _ (td) ?_
        | refine RegE.early (Cd.mk (show regOk _ _ _ _ = true by kernel_rfl) ?_)
        | refine Cd.mk rfl ?_
        | refine NthE.mk _ rfl ?_
        | (refine TkE.fL ?_; (conv => whnf); fail_if_success (show forceL _ _))
        | refine Res.mk ?_
        | ((with_reducible refine EqE.idW ?_); refine EqE.mk _ (wrap_in (by omega) (by omega)) ?_)
        | ((with_reducible refine EqE.idS ?_); (refine EqE.fP ?_; (conv => whnf); fail_if_success (show forceL _ _)))
        | refine Cd.mk (Nat.le_of_ble_eq_true rfl) ?_)
      rw [← hc]; rfl
    · have Q : QC p q P mode (dtop p - dtop q) := QC.of (hp) (hq) (p0) (hq1) (by unfold qtop; rw [if_neg c, Int.sub_zero])
      have cc := fun g => c (cmpN_lt.1 g)
      obtain ⟨t1, t2, b1, b2, u1, u2, cm, v1, v2, dv, sg, td, r1, r2, r3, r4, r5, r6⟩ := Q
      generalize qpos p q P mode = r at *
      generalize qA p q P / qB p q P = A at *
      generalize qA p q P % qB p q P = B at *
      refine sim_mk tab_ok Tryz.func205 rfl (by kernel_rfl) rfl ⟨Nat.le_of_ble_eq_true rfl, Nat.le_of_ble_eq_true rfl⟩ ?_
      repeat' ((conv => whnf); first
        | with_reducible refine CallX.data ?_
        | with_reducible refine Br.dec (fun h => absurd h (by omega)) (fun _ => ?_)
        | refine Br.mk (fun g => absurd (zn.symm.trans g) (by decide)) (fun _ => ?_)
        | refine CallE.mk _ _ (dnorm_sim kx) ?_
        | refine CallE.mk _ _ (dnorm_sim ky) ?_
        | refine CallE.mk _ _ (sp) ?_
        | refine CallE.mk _ _ (sq) ?_
        | refine CallE.mk _ _ (t1) ?_
        | refine CallE.mk _ _ (t2) ?_
        | refine CallE.mk _ _ (b1) ?_
        | refine CallE.mk _ _ (b2) ?_
        | refine CallE.mk _ _ (u1) ?_
        | refine CallE.mk _ _ (u2) ?_
        | refine CallE.mk _ _ (cm) ?_
        | refine CallE.mk _ _ (roHeld_sim _) ?_
        | refine CallE.mk _ _ (v1) ?_
        | refine CallE.mk _ _ (v2) ?_
        | refine CallE.mk _ _ (dv) ?_
        | refine CallE.mk _ _ (sg) ?_
        | refine CallE.mk _ _ (td) ?_
        | refine RegE.early (Cd.mk (show regOk _ _ _ _ = true by kernel_rfl) ?_)
        | refine Cd.mk rfl ?_
        | refine NthE.mk _ rfl ?_
        | (refine TkE.fL ?_; (conv => whnf); fail_if_success (show forceL _ _))
        | refine Res.mk ?_
        | ((with_reducible refine EqE.idW ?_); refine EqE.mk _ (wrap_in (by omega) (by omega)) ?_)
        | ((with_reducible refine EqE.idS ?_); (refine EqE.fP ?_; (conv => whnf); fail_if_success (show forceL _ _)))
        | refine Cd.mk (Nat.le_of_ble_eq_true rfl) ?_)
      rw [← hc]; rfl
end Go.Ev.Ar

namespace Go.Ev.Ar
open Go Go.Ev Go.Proofs

theorem rto_facts {q : Dyadic} {p : Int} : rto q p 0 ≤ q ∧ q ≤ rto q p 1 := by
  unfold rto
  split
  · rename_i h; rw [h]; grind
  · obtain ⟨h1, h2, _⟩ := grd_facts q (unitE q p); exact ⟨h1, h2⟩
theorem rto_ht {h K : Nat} {q : Dyadic} {p : Int} (mode : Int) (hm : mode = 0 ∨ mode = 1) (hq : Ht h q) (hp : min (max p 1) 4000 ≤ K) : Ht (h + 2 * K + 2) (rto q p mode) := by
  unfold rto
  split
  · exact .zero _
  rename_i h0
  have tb := dtop_bd hq
  obtain ⟨k, hk⟩ := grd_on q (unitE q p) 0
  obtain ⟨j, hj⟩ := grd_on q (unitE q p) 1
  obtain ⟨g1, g2, g3, g4, _⟩ := grd_facts q (unitE q p)
  rw [hk] at g1 g3
  rw [hj] at g2 g4
  have s1 := dof_step k (unitE q p)
  have s2 := dof_step (j - 1) (unitE q p)
  rw [Int.sub_add_cancel] at s2
  have l := lt_dof_one h0
  have e1 : dof (2 ^ (min (max p 1) 4000).toNat) (unitE q p) = dof 1 (dtop q + 1) := by
    rw [pow_dof _ _ (by omega)]; unfold unitE; congr 1; omega
  have hu : -((h + K : Nat) : Int) ≤ unitE q p ∧ unitE q p ≤ ((h + K : Nat) : Int) := by unfold unitE; omega
  have hK : (min (max p 1) 4000).toNat + 1 ≤ K + 1 := by omega
  rw [← e1] at l
  obtain ⟨l1, l2⟩ := dabs_lt_iff.1 l
  have e2 := dof_neg (2 ^ (min (max p 1) 4000).toNat) (unitE q p)
  have a1 : dof k (unitE q p) < dof (2 ^ (min (max p 1) 4000).toNat) (unitE q p) := by grind
  have a2 : dof (-(2 ^ (min (max p 1) 4000).toNat)) (unitE q p) < dof (k + 1) (unitE q p) := by grind
  have a3 : dof (j - 1) (unitE q p) < dof (2 ^ (min (max p 1) 4000).toNat) (unitE q p) := by grind
  have a4 : dof (-(2 ^ (min (max p 1) 4000).toNat)) (unitE q p) < dof j (unitE q p) := by grind
  rw [dof_lt] at a1 a2 a3 a4
  rcases hm with rfl | rfl
  · rw [hk]; exact Ht.dof ((zt_pow_le (by omega) (by omega)).mono hK) hu.1 hu.2 (by omega)
  · rw [hj]; exact Ht.dof ((zt_pow_le (by omega) (by omega)).mono hK) hu.1 hu.2 (by omega)
/-- Rounded outwards. -/
def iround (z : Cq) (p : Int) : Cq := (rto z.1 p 0, rto z.2 p 1)
theorem _root_.Go.Ev.Hc.iround {h K : Nat} {z : Cq} {p : Int} (hz : Hc h z) (hp : min (max p 1) 4000 ≤ K) : Hc (h + 2 * K + 2) (iround z p) := ⟨rto_ht 0 (.inl rfl) hz.1 hp, rto_ht 1 (.inr rfl) hz.2 hp⟩
theorem iround_in (z : Cq) (p : Int) : iin z (iround z p) := ⟨rto_facts.1, rto_facts.2⟩
theorem iround_ord {z : Cq} (p : Int) (h : Ord z) : Ord (iround z p) := ihas_ord (iin_has (iround_in z p) (ihas_l h))
theorem _root_.Go.Ev.Hc.iinv {h K : Nat} {z : Cq} {p : Int} (hz : Hc h z) (hp : min (max p 1) 4000 ≤ K) : Hc (h + 2 * K + 4) (iinv z p) := ⟨(qdiv_ht 0 .one hz.2 hp).mono (by omega), (qdiv_ht 1 .one hz.1 hp).mono (by omega)⟩
/-- What is inverted, or the error. -/
def iinvE (z : Cq) (p : Int) : Cq × Int := if ihas z 0 then ((0, 0), 11) else (iinv z p, 0)
def idivE (z w : Cq) (p : Int) : Cq × Int := if ihas w 0 then ((0, 0), 11) else (iround (imul z (iinv w p)) p, 0)
theorem _root_.Go.Ev.Hc.zero (a : Nat) : Hc a (0, 0) := ⟨.zero _, .zero _⟩
theorem _root_.Go.Ev.Hc.iinvE {h K : Nat} {z : Cq} {p : Int} (hz : Hc h z) (hp : min (max p 1) 4000 ≤ K) : Hc (h + 2 * K + 4) (iinvE z p).1 := by
  unfold Go.Ev.Ar.iinvE; split
  · exact Go.Ev.Hc.zero _
  · exact hz.iinv hp
theorem _root_.Go.Ev.Hc.idivE {h g K : Nat} {z w : Cq} {p : Int} (hz : Hc h z) (hw : Hc g w) (hp : min (max p 1) 4000 ≤ K) : Hc (h + g + 4 * K + 6) (idivE z w p).1 := by
  unfold Go.Ev.Ar.idivE; split
  · exact Go.Ev.Hc.zero _
  · exact ((hz.imul (hw.iinv hp) (c := h + (g + 2 * K + 4)) (by omega)).iround hp).mono (by omega)
theorem cxD_zero : D.agg [.bool false, sl [], .int .i64 0, .bool false, sl [], .int .i64 0] = cxD (0, 0) := by rw [← ofN_zero]; rfl
theorem dy0 : DyR (.agg [.bool false, sl [], .int .i64 0]) 0 := DyR.mk false [] 0 (by decide) (by decide) (by decide) (Ht.zero _)
theorem roTo_at {x : D} {q r : Dyadic} (p mode : Int) (hx : DyR x q) (hq : Ht 100000 q) (h : rto q p mode = r) : Sim Tryz.prog G0 false 136 [x, .int .i64 p, .int .i64 mode] (dyD r) := h ▸ roTo_sim p mode hx hq
theorem rlRound_is {x : D} {z r : Cq} (p : Int) (hx : CxR x z) (hz : Hc 100000 z) (h : iround (rof z) p = r) : Sim Tryz.prog G0 false 70 [x, .int .i64 p] (cxD r) := by
  subst h
  have hr := hz.rof
  have s := rlof_is hx (hz.mono (by decide)) rfl
  generalize rof z = r at *
  obtain ⟨u, v⟩ := r
  have g1 := roTo_at p 0 (.of (hr.1.mono (by decide))) hr.1 rfl
  have g2 := roTo_at p 1 (.of (hr.2.mono (by decide))) hr.2 rfl
  obtain ⟨_, _⟩ := hx
  refine sim_mk tab_ok Tryz.func70 rfl (by kernel_rfl) rfl ⟨Nat.le_of_ble_eq_true rfl, Nat.le_of_ble_eq_true rfl⟩ ?_
  repeat' ((conv => whnf); first
    | with_reducible refine CallX.data ?_
    | refine CallE.mk _ _ (s) ?_
    | refine CallE.mk _ _ (g1) ?_
    | refine CallE.mk _ _ (g2) ?_
    | refine RegE.early (Cd.mk (show regOk _ _ _ _ = true by kernel_rfl) ?_)
    | refine Cd.mk rfl ?_
    | (refine TkE.fL ?_; (conv => whnf); fail_if_success (show forceL _ _))
    | refine Res.mk ?_
    | ((with_reducible refine EqE.idS ?_); (refine EqE.fP ?_; (conv => whnf); fail_if_success (show forceL _ _)))
    | refine Cd.mk (Nat.le_of_ble_eq_true rfl) ?_)
  rfl
theorem rlInv_is {x : D} {z r : Cq} {c : Int} (p : Int) (hx : CxR x z) (hz : Hc 50000 z) (h : iinvE (rof z) p = (r, c)) : Sim Tryz.prog G0 false 179 [x, .int .i64 p] (.tup [cxD r, .int .i64 c]) := by
  have hr := hz.rof
  have ho := rof_ord z
  have s := rlof_is hx (hz.mono (by decide)) rfl
  generalize rof z = w at *
  have g := rlHas_is (.of (hr.mono (by decide))) dy0 (hr.mono (by decide)) (Ht.zero _) rfl
  rw [rof_self ho] at g
  have one : Sim Tryz.prog G0 false 128 [.int .i64 1] (dyD 1) := dofn_sim 1 (by decide) (by decide)
  obtain ⟨u, v⟩ := w
  have d1 := fun (q : Dyadic) (e : qdiv 1 v p 0 = q) (h0 : (if v = 0 then (11 : Int) else 0) = 0) => qDiv_is p 0 (.of (Ht.one.mono (by decide))) (.of (hr.2.mono (by decide))) (Ht.one.mono (by decide)) (hr.2.mono (by decide)) e h0
  have d2 := fun (q : Dyadic) (e : qdiv 1 u p 1 = q) (h0 : (if u = 0 then (11 : Int) else 0) = 0) => qDiv_is p 1 (.of (Ht.one.mono (by decide))) (.of (hr.1.mono (by decide))) (Ht.one.mono (by decide)) (hr.1.mono (by decide)) e h0
  obtain ⟨_, _⟩ := hx
  unfold iinvE at h
  by_cases c0 : ihas (u, v) 0
  · rw [if_pos c0] at h
    rw [decide_eq_true c0] at g
    cases h
    refine sim_mk tab_ok Tryz.func179 rfl (by kernel_rfl) rfl ⟨Nat.le_of_ble_eq_true rfl, Nat.le_of_ble_eq_true rfl⟩ ?_
    repeat' ((conv => whnf); first
      | with_reducible refine CallX.data ?_
      | refine CallE.mk _ _ (s) ?_
      | refine CallE.mk _ _ (g) ?_
      | refine RegE.early (Cd.mk (show regOk _ _ _ _ = true by kernel_rfl) ?_)
      | refine Cd.mk rfl ?_
      | refine Br.t ?_
      | (refine TkE.fL ?_; (conv => whnf); fail_if_success (show forceL _ _))
      | refine Res.mk ?_
      | ((with_reducible refine EqE.idS ?_); (refine EqE.fP ?_; (conv => whnf); fail_if_success (show forceL _ _)))
      | refine Cd.mk (Nat.le_of_ble_eq_true rfl) ?_)
    show _ = D.tup [D.agg [.bool false, sl [], .int .i64 0, .bool false, sl [], .int .i64 0], _]
    rw [cxD_zero]; rfl
  · rw [if_neg c0] at h
    rw [decide_eq_false c0] at g
    cases h
    have hs := iinv_sign p ho c0
    have d1 := d1 _ rfl (if_neg (by rcases hs with k | k <;> grind))
    have d2 := d2 _ rfl (if_neg (by rcases hs with k | k <;> grind))
    refine sim_mk tab_ok Tryz.func179 rfl (by kernel_rfl) rfl ⟨Nat.le_of_ble_eq_true rfl, Nat.le_of_ble_eq_true rfl⟩ ?_
    repeat' ((conv => whnf); first
      | with_reducible refine CallX.data ?_
      | refine CallE.mk _ _ (s) ?_
      | refine CallE.mk _ _ (g) ?_
      | refine CallE.mk _ _ (one) ?_
      | refine CallE.mk _ _ (d1) ?_
      | refine CallE.mk _ _ (d2) ?_
      | refine RegE.early (Cd.mk (show regOk _ _ _ _ = true by kernel_rfl) ?_)
      | refine Cd.mk rfl ?_
      | refine Br.f ?_
      | refine NthE.mk _ rfl ?_
      | (refine TkE.fL ?_; (conv => whnf); fail_if_success (show forceL _ _))
      | refine Res.mk ?_
      | ((with_reducible refine EqE.idS ?_); (refine EqE.fP ?_; (conv => whnf); fail_if_success (show forceL _ _)))
      | refine Cd.mk (Nat.le_of_ble_eq_true rfl) ?_)
    rfl
theorem mn_comm (p q : Dyadic) : mn p q = mn q p := by unfold mn; grind
theorem mx_comm (p q : Dyadic) : mx p q = mx q p := by unfold mx; grind
theorem mn_swap (a b c d : Dyadic) : mn (mn a b) (mn c d) = mn (mn c d) (mn a b) := mn_comm _ _
theorem imul_rof (z w : Cq) : imul (rof z) w = imul z w := by
  obtain ⟨p, q⟩ := z
  by_cases h : p ≤ q
  · rw [rof_self (show Ord (p, q) from h)]
  · have e : rof (p, q) = (q, p) := by unfold rof mn mx; dsimp only; congr 1 <;> grind
    rw [e]; unfold imul; dsimp only
    rw [mn_comm (mn (q * w.1) _), mx_comm (mx (q * w.1) _)]
theorem imul_comm (z w : Cq) : imul z w = imul w z := by
  unfold imul
  rw [Dyadic.mul_comm w.1 z.1, Dyadic.mul_comm w.1 z.2, Dyadic.mul_comm w.2 z.1, Dyadic.mul_comm w.2 z.2]
  generalize z.1 * w.1 = a
  generalize z.1 * w.2 = b
  generalize z.2 * w.1 = c
  generalize z.2 * w.2 = d
  unfold mn mx
  congr 1 <;> grind
theorem imul_rof2 (z w : Cq) : imul z (rof w) = imul z w := by rw [imul_comm, imul_rof, imul_comm]
theorem rlDiv_is {x y : D} {z w r : Cq} {c : Int} (p : Int) (hx : CxR x z) (hy : CxR y w) (hz : Hc 20000 z) (hw : Hc 20000 w) (h : idivE (rof z) (rof w) p = (r, c)) : Sim Tryz.prog G0 false 130 [x, y, .int .i64 p] (.tup [cxD r, .int .i64 c]) := by
  unfold idivE at h
  by_cases c0 : ihas (rof w) 0
  · rw [if_pos c0] at h; cases h
    have i := rlInv_is (r := (0, 0)) (c := 11) p hy (hw.mono (by decide)) (by unfold iinvE; rw [if_pos c0])
    obtain ⟨_, _⟩ := hx
    obtain ⟨_, _⟩ := hy
    refine sim_mk tab_ok Tryz.func130 rfl (by kernel_rfl) rfl ⟨Nat.le_of_ble_eq_true rfl, Nat.le_of_ble_eq_true rfl⟩ ?_
    repeat' ((conv => whnf); first
      | with_reducible refine CallX.data ?_
      | refine CallE.mk _ _ (i) ?_
      | refine RegE.early (Cd.mk (show regOk _ _ _ _ = true by kernel_rfl) ?_)
      | refine Cd.mk rfl ?_
      | refine Br.t ?_
      | refine NthE.mk _ rfl ?_
      | (refine TkE.fL ?_; (conv => whnf); fail_if_success (show forceL _ _))
      | refine Res.mk ?_
      | ((with_reducible refine EqE.idS ?_); (refine EqE.fP ?_; (conv => whnf); fail_if_success (show forceL _ _)))
      | refine Cd.mk (Nat.le_of_ble_eq_true rfl) ?_)
    show _ = D.tup [D.agg [.bool false, sl [], .int .i64 0, .bool false, sl [], .int .i64 0], _]
    rw [cxD_zero]; rfl
  · rw [if_neg c0] at h; cases h
    have ho := rof_ord w
    have i := rlInv_is (r := iinv (rof w) p) (c := 0) p hy (hw.mono (by decide)) (by unfold iinvE; rw [if_neg c0])
    have hi : Hc 28004 (iinv (rof w) p) := (hw.rof.iinv (K := 4000) (by omega)).mono (by decide)
    have m := rlMul_is hx (.of (hi.mono (by decide))) (hz.mono (by decide)) (hi.mono (by decide)) rfl
    rw [imul_rof]
    have hm : Hc 48004 (imul z (iinv (rof w) p)) := hz.imul hi (by decide)
    have ro := imul_ord z (iinv (rof w) p)
    generalize imul z (iinv (rof w) p) = M at *
    have d := rlRound_is p (.of (hm.mono (by decide))) (hm.mono (by decide)) rfl
    rw [rof_self ro] at d
    generalize iinv (rof w) p = I at *
    obtain ⟨_, _⟩ := I
    obtain ⟨_, _⟩ := M
    obtain ⟨_, _⟩ := hx
    obtain ⟨_, _⟩ := hy
    refine sim_mk tab_ok Tryz.func130 rfl (by kernel_rfl) rfl ⟨Nat.le_of_ble_eq_true rfl, Nat.le_of_ble_eq_true rfl⟩ ?_
    repeat' ((conv => whnf); first
      | with_reducible refine CallX.data ?_
      | refine CallE.mk _ _ (i) ?_
      | refine CallE.mk _ _ (m) ?_
      | refine CallE.mk _ _ (d) ?_
      | refine RegE.early (Cd.mk (show regOk _ _ _ _ = true by kernel_rfl) ?_)
      | refine Cd.mk rfl ?_
      | refine Br.f ?_
      | refine NthE.mk _ rfl ?_
      | (refine TkE.fL ?_; (conv => whnf); fail_if_success (show forceL _ _))
      | refine Res.mk ?_
      | ((with_reducible refine EqE.idS ?_); (refine EqE.fP ?_; (conv => whnf); fail_if_success (show forceL _ _)))
      | refine Cd.mk (Nat.le_of_ble_eq_true rfl) ?_)
    rfl
end Go.Ev.Ar
