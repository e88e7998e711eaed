/- Contracts of the given functions, on data. Conditions stand in each theorem. -/
import Derived.Test.YtlhhckpjcglinaaDoorGArZ
import Derived.Test.YtlhhckpjcglinaaDoorGArRZ
import Derived.Test.YtlhhckpjcglinaaDoorGEvZ
set_option linter.unusedSimpArgs false
set_option linter.unusedVariables false
namespace Go.Ev.Ar
open Go Go.Ev Go.Proofs

theorem dsign_at {x : D} {q : Dyadic} {s : Int} (hx : DyR x q) (h : dsg q = s) : Sim Tryd.prog G0 true 55 [x] (.int .i64 s) := h ▸ dsign_sim hx
theorem quarter_sim {x : D} {z : Cq} (hx : CxR x z) : Sim Tryd.prog G0 true 33 [x] (.int .i64 (quart z)) := by
  obtain ⟨hp, hq⟩ := hx
  rename_i p q
  refine sim_mk tab_ok Tryd.func33 rfl (by kernel_rfl) rfl ⟨Nat.le_of_ble_eq_true rfl, Nat.le_of_ble_eq_true rfl⟩ ?_
  rcases dsg_cases p with ⟨h1, h2⟩ | ⟨h1, h2⟩ | ⟨h1, h2⟩ <;> rcases dsg_cases q with ⟨h3, h4⟩ | ⟨h3, h4⟩ | ⟨h3, h4⟩
  all_goals
    repeat' ((conv => whnf); first
      | refine CallE.mk _ _ (dsign_at hp h2) ?_
      | refine CallE.mk _ _ (dsign_at hq h4) ?_
      | refine RegE.early (Cd.mk (show regOk _ _ _ _ = true by kernel_rfl) ?_)
      | refine Cd.mk rfl ?_
      | refine NthE.mk _ rfl ?_
      | (refine TkE.fL ?_; (conv => whnf); fail_if_success (show forceL _ _))
      | refine Res.mk ?_
      | ((with_reducible refine EqE.idW ?_); refine EqE.mk _ (wrap_in (by omega) (by omega)) ?_)
      | ((with_reducible refine EqE.idS ?_); (refine EqE.fP ?_; (conv => whnf); fail_if_success (show forceL _ _)))
      | refine Cd.mk (Nat.le_of_ble_eq_true rfl) ?_
      | refine Cd.mk (by first | omega | (simp only [length_limbs, length_la]; omega)) ?_)
  all_goals
    show D.int _ _ = D.int _ _
    congr 1
    simp only [quart]
    grind
theorem side_sim {x y : D} {a b : Cq} (hx : CxR x a) (hy : CxR y b) (ha : Hc 200000 a) (hb : Hc 200000 b) : Sim Tryd.prog G0 true 34 [x, y] (.int .i64 (dsg (cross a b))) := by
  have h1 := ha.1.mul hb.2 (c := 400000) (by decide)
  have h2 := ha.2.mul hb.1 (c := 400000) (by decide)
  have h3 := h1.sub h2 (c := 400001) (by decide)
  obtain ⟨hp, hq⟩ := hx
  obtain ⟨hr, hs⟩ := hy
  refine sim_mk tab_ok Tryd.func34 rfl (by kernel_rfl) rfl ⟨Nat.le_of_ble_eq_true rfl, Nat.le_of_ble_eq_true rfl⟩ ?_
  repeat' ((conv => whnf); first
    | refine CallE.mk _ _ (dmul_sim hp hs) ?_
    | refine CallE.mk _ _ (dmul_sim hq hr) ?_
    | refine CallE.mk _ _ (dcmp_sim (.of (h1.mono (by decide))) (.of (h2.mono (by decide))) (h3.mono (by decide))) ?_
    | refine RegE.early (Cd.mk (show regOk _ _ _ _ = true by kernel_rfl) ?_)
    | refine Cd.mk rfl ?_
    | (refine TkE.fL ?_; (conv => whnf); fail_if_success (show forceL _ _))
    | refine Res.mk ?_)
  rfl
theorem turn_sim {x y : D} {a b : Cq} (hx : CxR x a) (hy : CxR y b) (ha : Hc 200000 a) (hb : Hc 200000 b) : Sim Tryd.prog G0 true 32 [x, y] (.tup [.int .i64 (turn a b).1, .bool (turn a b).2]) := by
  have kx := hx
  have ky := hy
  obtain ⟨hp, hq⟩ := hx
  obtain ⟨hr, hs⟩ := hy
  rename_i p q _ _ _ _ _ _ r s
  generalize ha' : (p, q) = a at *
  generalize hb' : (r, s) = b at *
  have h1 := quart_ge a
  have h2 := quart_ge b
  have hs := dsg_cases (cross a b)
  unfold turn turnQ
  refine sim_mk tab_ok Tryd.func32 rfl (by kernel_rfl) rfl ⟨Nat.le_of_ble_eq_true rfl, Nat.le_of_ble_eq_true rfl⟩ ?_
  by_cases h3 : quart a < 0
  · rw [if_pos (.inl h3)]
    repeat' ((conv => whnf); first
      | with_reducible refine Br.dec (fun _ => ?_) (fun h => absurd (by omega) h)
      | refine CallE.mk _ _ (quarter_sim kx) ?_
      | refine CallE.mk _ _ (quarter_sim ky) ?_
      | refine RegE.early (Cd.mk (show regOk _ _ _ _ = true by kernel_rfl) ?_)
      | refine Cd.mk rfl ?_
      | refine Br.t ?_
      | (refine TkE.fL ?_; (conv => whnf); fail_if_success (show forceL _ _))
      | refine Res.mk ?_)
    rfl
  by_cases h4 : quart b < 0
  · rw [if_pos (.inr h4)]
    repeat' ((conv => whnf); first
      | with_reducible refine Br.dec (fun h => absurd h (by omega)) (fun _ => ?_)
      | with_reducible refine Br.dec (fun _ => ?_) (fun h => absurd (by omega) h)
      | refine CallE.mk _ _ (quarter_sim kx) ?_
      | refine CallE.mk _ _ (quarter_sim ky) ?_
      | refine RegE.early (Cd.mk (show regOk _ _ _ _ = true by kernel_rfl) ?_)
      | refine Cd.mk rfl ?_
      | refine Br.f ?_
      | (refine TkE.fL ?_; (conv => whnf); fail_if_success (show forceL _ _))
      | refine Res.mk ?_)
    rfl
  rw [if_neg (by omega)]
  have hd : (quart b - quart a + 4) % 4 = 0 ∨ (quart b - quart a + 4) % 4 = 1 ∨ (quart b - quart a + 4) % 4 = 2 ∨ (quart b - quart a + 4) % 4 = 3 := by omega
  have he : (quart b - quart a + 4).tmod 4 = (quart b - quart a + 4) % 4 := by rw [Int.tmod_eq_emod_of_nonneg (by omega)]
  rcases hd with hd | hd | hd | hd <;> rw [hd] at he ⊢
  · repeat' ((conv => whnf); first
      | with_reducible refine Br.dec (fun h => absurd h (by omega)) (fun _ => ?_)
      | refine CallE.mk _ _ (quarter_sim kx) ?_
      | refine CallE.mk _ _ (quarter_sim ky) ?_
      | refine RegE.early (Cd.mk (show regOk _ _ _ _ = true by kernel_rfl) ?_)
      | refine Cd.mk rfl ?_
      | refine Br.f ?_
      | refine NthE.mk _ rfl ?_
      | (refine TkE.fL ?_; (conv => whnf); fail_if_success (show forceL _ _))
      | refine Res.mk ?_
      | ((with_reducible refine EqE.idW ?_); refine EqE.mk _ (wrap_in (by omega) (by omega)) ?_)
      | ((with_reducible refine EqE.idM ?_); refine EqE.mk _ he ?_)
      | ((with_reducible refine EqE.idS ?_); (refine EqE.fP ?_; (conv => whnf); fail_if_success (show forceL _ _)))
      | refine Cd.mk (Nat.le_of_ble_eq_true rfl) ?_
      | refine Cd.mk (by first | omega | (simp only [length_limbs, length_la]; omega)) ?_)
    rfl
  · repeat' ((conv => whnf); first
      | with_reducible refine Br.dec (fun h => absurd h (by omega)) (fun _ => ?_)
      | refine CallE.mk _ _ (quarter_sim kx) ?_
      | refine CallE.mk _ _ (quarter_sim ky) ?_
      | refine RegE.early (Cd.mk (show regOk _ _ _ _ = true by kernel_rfl) ?_)
      | refine Cd.mk rfl ?_
      | refine Br.f ?_
      | refine NthE.mk _ rfl ?_
      | (refine TkE.fL ?_; (conv => whnf); fail_if_success (show forceL _ _))
      | refine Res.mk ?_
      | ((with_reducible refine EqE.idW ?_); refine EqE.mk _ (wrap_in (by omega) (by omega)) ?_)
      | ((with_reducible refine EqE.idM ?_); refine EqE.mk _ he ?_)
      | ((with_reducible refine EqE.idS ?_); (refine EqE.fP ?_; (conv => whnf); fail_if_success (show forceL _ _)))
      | refine Cd.mk (Nat.le_of_ble_eq_true rfl) ?_
      | refine Cd.mk (by first | omega | (simp only [length_limbs, length_la]; omega)) ?_)
    rfl
  · repeat' ((conv => whnf); first
      | with_reducible refine CallX.data ?_
      | with_reducible refine Br.dec (fun h => absurd h (by omega)) (fun _ => ?_)
      | refine CallE.mk _ _ (quarter_sim kx) ?_
      | refine CallE.mk _ _ (quarter_sim ky) ?_
      | refine CallE.mk _ _ (side_sim kx ky ha hb) ?_
      | refine RegE.early (Cd.mk (show regOk _ _ _ _ = true by kernel_rfl) ?_)
      | refine Cd.mk rfl ?_
      | refine Br.t ?_
      | refine Br.f ?_
      | refine NthE.mk _ rfl ?_
      | (refine TkE.fL ?_; (conv => whnf); fail_if_success (show forceL _ _))
      | refine Res.mk ?_
      | ((with_reducible refine EqE.idW ?_); refine EqE.mk _ (wrap_in (by omega) (by omega)) ?_)
      | ((with_reducible refine EqE.idM ?_); refine EqE.mk _ he ?_)
      | ((with_reducible refine EqE.idS ?_); (refine EqE.fP ?_; (conv => whnf); fail_if_success (show forceL _ _)))
      | refine Cd.mk (Nat.le_of_ble_eq_true rfl) ?_
      | refine Cd.mk (by first | omega | (simp only [length_limbs, length_la]; omega)) ?_)
    show D.tup [D.int _ (2 * _), D.bool (decide (_ ≠ 0))] = D.tup [D.int _ (2 * _), D.bool (!decide (_ = 0))]
    rw [decide_not]
  · repeat' ((conv => whnf); first
      | with_reducible refine Br.dec (fun h => absurd h (by omega)) (fun _ => ?_)
      | refine CallE.mk _ _ (quarter_sim kx) ?_
      | refine CallE.mk _ _ (quarter_sim ky) ?_
      | refine RegE.early (Cd.mk (show regOk _ _ _ _ = true by kernel_rfl) ?_)
      | refine Cd.mk rfl ?_
      | refine Br.f ?_
      | refine NthE.mk _ rfl ?_
      | (refine TkE.fL ?_; (conv => whnf); fail_if_success (show forceL _ _))
      | refine Res.mk ?_
      | ((with_reducible refine EqE.idW ?_); refine EqE.mk _ (wrap_in (by omega) (by omega)) ?_)
      | ((with_reducible refine EqE.idM ?_); refine EqE.mk _ he ?_)
      | ((with_reducible refine EqE.idS ?_); (refine EqE.fP ?_; (conv => whnf); fail_if_success (show forceL _ _)))
      | refine Cd.mk (Nat.le_of_ble_eq_true rfl) ?_
      | refine Cd.mk (by first | omega | (simp only [length_limbs, length_la]; omega)) ?_)
    rfl
theorem number_sim (xs : List RC) (hlen : xs.length ≤ 100000) (hx : ∀ r ∈ xs, CxR (.agg r.cells) r.val ∧ Hc 200000 r.val) : Sim Tryd.prog G0 true 11 [csl xs] (.tup [.int .i64 (number (xs.map RC.val)).1, .bool (number (xs.map RC.val)).2]) := by
  refine sim_mk tab_ok Tryd.func11 rfl (by kernel_rfl) rfl ⟨Nat.le_of_ble_eq_true rfl, Nat.le_of_ble_eq_true rfl⟩ ?_
  repeat' ((conv => whnf); first
    | refine RegE.early (Cd.mk (show regOk _ _ _ _ = true by kernel_rfl) ?_))
  refine ⟨[], [0, 4, 9, 10, 11], [], fun m ys h => ∃ (i : Nat) (s : Int), m = xs.length - i ∧ i ≤ xs.length ∧ turns ((ring (xs.map RC.val)).take i) = some s ∧ -(2 * (i : Int)) ≤ s ∧ s ≤ 2 * i ∧
    ys = [.d (csl xs), .d (.int .i64 s), .d (csl xs), .d (.int .i64 xs.length), .d (.int .i64 i)] ∧ h = [],
    ⟨_, _, _, ⟨.inl rfl, rfl, rfl, by first | rfl | (repeat first | exact all_nil _ | refine all_la _ _ _ _ _ ?_)⟩, 0, 0, rfl, by omega, rfl, by decide, by decide, rfl, rfl⟩, ?_⟩
  rintro m ys h ⟨i, s, rfl, hi, hs, hs1, hs2, rfl, rfl⟩
  have hrl := ring_length (xs.map RC.val)
  rw [List.length_map] at hrl
  by_cases hlt : i < xs.length
  · have hj : (i + 1) % xs.length < xs.length := Nat.mod_lt _ (by omega)
    have hrg := ring_get (xs.map RC.val) i (by simpa using hlt)
    rw [RC.getD_val, RC.getD_val, List.length_map] at hrg
    have ha := hx _ (RC.getD_mem hlt)
    have hb := hx _ (RC.getD_mem hj)
    generalize hri : xs.getD i RC.nil = ri at *
    generalize hrj : xs.getD ((i + 1) % xs.length) RC.nil = rj at *
    have htl := turn_le ri.val rj.val
    repeat' ((conv => whnf); first
      | with_reducible refine Br.dec (fun _ => ?_) (fun h => absurd (by omega) h)
      | refine CallE.mk _ _ (turn_sim ha.1 hb.1 ha.2 hb.2) ?_
      | refine Cd.mk (cx_ix xs _ (by omega)) ?_
      | refine TkE.mk _ ((cx_tk xs i hlt).trans (congrArg RC.cells hri)) rfl ?_
      | refine TkE.mk _ ((cx_tk xs _ hj).trans (congrArg RC.cells hrj)) rfl ?_
      | refine RegE.early (Cd.mk (show regOk _ _ _ _ = true by kernel_rfl) ?_)
      | refine Cd.mk rfl ?_
      | refine Br.mk (fun _ => ?_) (fun _ => ?_)
      | refine NthE.mk _ rfl ?_
      | (refine TkE.fL ?_; (conv => whnf); fail_if_success (show forceL _ _))
      | refine Res.mk ?_
      | refine LoopEnd.go _ _ ⟨.inl rfl, rfl, rfl, by first | rfl | (repeat first | exact all_nil _ | refine all_la _ _ _ _ _ ?_)⟩ ?_
      | ((with_reducible refine EqE.idW ?_); first | with_reducible refine EqE.mk _ (n_succ _ (by omega)) ?_ | refine EqE.mk _ (wrap_in (by omega) (by omega)) ?_)
      | ((with_reducible refine EqE.idM ?_); refine EqE.mk _ (n_rem _ _) ?_)
      | ((with_reducible refine EqE.idS ?_); (refine EqE.fP ?_; (conv => whnf); fail_if_success (show forceL _ _)))
      | refine Cd.mk (Nat.le_of_ble_eq_true rfl) ?_
      | refine Cd.mk (by first | omega | (simp only [length_limbs, length_la]; omega)) ?_)
    · rename_i h
      have h := turns_stop (by omega) hs (by rw [hrg]; simpa using h)
      unfold number; rw [h]; rfl
    · rename_i h
      exact ⟨_, ⟨i + 1, _, rfl, by omega, turns_step (by omega) hs (by rw [hrg]; simpa using h), by rw [hrg]; omega, by rw [hrg]; omega, by rw [hrg]; rfl, rfl⟩, by omega⟩
  · have hq := tdiv_four hs1 hs2
    repeat' ((conv => whnf); first
      | with_reducible refine Br.dec (fun h => absurd h (by omega)) (fun _ => ?_)
      | refine RegE.early (Cd.mk (show regOk _ _ _ _ = true by kernel_rfl) ?_)
      | refine Cd.mk rfl ?_
      | refine Res.mk ?_
      | ((with_reducible refine EqE.idW ?_); refine EqE.mk _ (wrap_in (by omega) (by omega)) ?_)
      | refine Cd.mk (by first | omega | (simp only [length_limbs, length_la]; omega)) ?_)
    rw [List.take_of_length_le (by omega)] at hs
    unfold number; rw [hs]
    show D.tup [D.int _ _, D.bool (decide _)] = D.tup [D.int _ _, D.bool (decide _)]
    congr 4
    rw [List.length_map]
    exact decide_eq_decide.2 (by omega)
/-- Data of few limbs that means a point. -/
inductive CxF : D → Cq → Prop where
  | mk {b : Bool} {l : List UInt32} {e : Int} {c : Bool} {k : List UInt32} {f : Int} {p q : Dyadic} (hp : DyF (.agg [.bool b, sl l, .int .i64 e]) p) (hq : DyF (.agg [.bool c, sl k, .int .i64 f]) q) :
    CxF (.agg [.bool b, sl l, .int .i64 e, .bool c, sl k, .int .i64 f]) (p, q)
theorem cxF_few {n : Nat} (b : Nat) {B : Int} (hB : B = b) {r : RC} (hn : n ≤ 1000) (hb : b ≤ 100000) (h : r.few n B = true) : CxF (.agg r.cells) r.val := by
  subst hB
  have h := RC.few_iff.1 h
  exact .mk (.mk _ _ _ (by omega) (by omega) (by omega)) (.mk _ _ _ (by omega) (by omega) (by omega))
theorem rof_sim (m n : Int) (h1 : -9223372036854775808 ≤ m) (h2 : m ≤ 9223372036854775807) (h3 : -9223372036854775808 ≤ n) (h4 : n ≤ 9223372036854775807) : Sim Tryd.prog G0 false 8 [.int .i64 m, .int .i64 n] (cxD (dof m 0, dof n 0)) := by
  refine sim_mk tab_ok Tryd.func8 rfl (by kernel_rfl) rfl ⟨Nat.le_of_ble_eq_true rfl, Nat.le_of_ble_eq_true rfl⟩ ?_
  repeat' ((conv => whnf); first
    | with_reducible refine CallX.data ?_
    | refine CallE.mk _ _ (rofd_sim _ h1 h2) ?_
    | refine CallE.mk _ _ (rofd_sim _ h3 h4) ?_
    | refine RegE.early (Cd.mk (show regOk _ _ _ _ = true by kernel_rfl) ?_)
    | refine Cd.mk rfl ?_
    | (refine TkE.fL ?_; (conv => whnf); fail_if_success (show forceL _ _))
    | refine Res.mk ?_
    | ((with_reducible refine EqE.idS ?_); (refine EqE.fP ?_; (conv => whnf); fail_if_success (show forceL _ _)))
    | refine Cd.mk (Nat.le_of_ble_eq_true rfl) ?_)
  rfl
theorem rdsign_at {p : Dyadic} {s : Int} (hp : Ht 50000 p) (h : dsg p = s) : Sim Tryd.prog G0 true 17 [dyD p] (.int .i64 s) := h ▸ rdsign_sim hp
def kz : List Cq := [(dof 1 0, dof 0 0), (dof 0 0, dof 1 0), (dof (-1) 0, dof 0 0), (dof 0 0, dof (-1) 0)]
theorem kz_number : number kz = (1, true) := by decide
theorem kz_turn : turn (dof 1 0, dof 0 0) (dof 0 0, dof 1 0) = (1, true) := by decide
theorem kz_turn2 : (turn (dof 1 0, dof 0 0) (dof (-1) 0, dof 0 0)).2 = false := by decide
theorem kz_quart : quart (dof 0 0, dof (-1) 0) = 3 := by decide
theorem kz_side : dsg (cross (dof 1 0, dof 0 0) (dof 0 0, dof 1 0)) = 1 := by decide
end Go.Ev.Ar

namespace Go.Ev.Ar
open Go Go.Ev Go.Proofs

theorem ht_one (n : Int) (h : n.natAbs ≤ 8) : Ht 100 (dof n 0) := Ht.dof (a := 64) (b := 0) (Zt.small (by omega) (by decide)) (by decide) (by decide) (by decide)
theorem hc_kz {m n : Int} (h : m.natAbs ≤ 8) (h2 : n.natAbs ≤ 8) : Hc 100 (dof m 0, dof n 0) := ⟨ht_one m h, ht_one n h2⟩
theorem kx {m n : Int} (h : m.natAbs ≤ 8) (h2 : n.natAbs ≤ 8) : CxR (cxD (dof m 0, dof n 0)) (dof m 0, dof n 0) := .of ((hc_kz h h2).mono (by decide))
theorem knum : Sim Tryd.prog G0 true 11 [csl (kz.map RC.of)] (.tup [.int .i64 1, .bool true]) := by
  have h := number_sim (kz.map RC.of) (by decide) (by
    intro r hr
    obtain ⟨z, hz, rfl⟩ := List.mem_map.1 hr
    rw [RC.of_val]
    have h1 : Hc 100 z := by
      simp only [kz, List.mem_cons, List.not_mem_nil, or_false] at hz
      rcases hz with rfl | rfl | rfl | rfl <;> exact hc_kz (by decide) (by decide)
    exact ⟨CxR.of (h1.mono (by decide)), h1.mono (by decide)⟩)
  rw [List.map_map, show RC.val ∘ RC.of = id from funext RC.of_val, List.map_id, kz_number] at h
  exact h
theorem knil : Sim Tryd.prog G0 true 11 [csl []] (.tup [.int .i64 0, .bool false]) := number_sim [] (by decide) (by simp)
theorem kturn1 : Sim Tryd.prog G0 true 32 [cxD (dof 1 0, dof 0 0), cxD (dof 0 0, dof 1 0)] (.tup [.int .i64 1, .bool true]) := by
  have h := turn_sim (kx (m := 1) (n := 0) (by decide) (by decide)) (kx (m := 0) (n := 1) (by decide) (by decide)) ((hc_kz (by decide) (by decide)).mono (by decide)) ((hc_kz (by decide) (by decide)).mono (by decide))
  rwa [kz_turn] at h
theorem kturn2 : Sim Tryd.prog G0 true 32 [cxD (dof 1 0, dof 0 0), cxD (dof (-1) 0, dof 0 0)] (.tup [.int .i64 (turn (dof 1 0, dof 0 0) (dof (-1) 0, dof 0 0)).1, .bool false]) := by
  have h := turn_sim (kx (m := 1) (n := 0) (by decide) (by decide)) (kx (m := -1) (n := 0) (by decide) (by decide)) ((hc_kz (by decide) (by decide)).mono (by decide)) ((hc_kz (by decide) (by decide)).mono (by decide))
  rwa [kz_turn2] at h
theorem kquart1 : Sim Tryd.prog G0 true 33 [cxD (dof 0 0, dof (-1) 0)] (.int .i64 3) := by
  have h := quarter_sim (kx (m := 0) (n := -1) (by decide) (by decide))
  rwa [kz_quart] at h
theorem kquart2 : Sim Tryd.prog G0 true 33 [cxD (0, 0)] (.int .i64 (-1)) := quarter_sim (kx (m := 0) (n := 0) (by decide) (by decide))
theorem kside : Sim Tryd.prog G0 true 34 [cxD (dof 1 0, dof 0 0), cxD (dof 0 0, dof 1 0)] (.int .i64 1) := by
  have h := side_sim (kx (m := 1) (n := 0) (by decide) (by decide)) (kx (m := 0) (n := 1) (by decide) (by decide)) ((hc_kz (by decide) (by decide)).mono (by decide)) ((hc_kz (by decide) (by decide)).mono (by decide))
  rwa [kz_side] at h
theorem cx0 : D.agg [.bool false, sl [], .int .i64 0, .bool false, sl [], .int .i64 0] = cxD (0, 0) := by
  show _ = D.agg [.bool _, sl (ofN 0), .int .i64 _, .bool _, sl (ofN 0), .int .i64 _]
  rw [ofN_zero]; rfl
theorem kquart2' : Sim Tryd.prog G0 true 33 [D.agg [.bool false, sl [], .int .i64 0, .bool false, sl [], .int .i64 0]] (.int .i64 (-1)) := by rw [cx0]; exact kquart2
theorem known_sim : Sim Tryd.prog G0 true 7 [] (.bool true) := by
  refine sim_mk tab_ok Tryd.func7 rfl (by kernel_rfl) rfl ⟨Nat.le_of_ble_eq_true rfl, Nat.le_of_ble_eq_true rfl⟩ ?_
  repeat' ((conv => whnf); first
    | with_reducible refine CallX.data ?_
    | refine CallE.mk _ _ (rof_sim _ _ (by decide) (by decide) (by decide) (by decide)) ?_
    | refine DsE.mk ((kz.map RC.of).flatMap RC.cells) rfl ?_
    | refine CallE.mk _ _ (knum) ?_
    | refine CallE.mk _ _ (knil) ?_
    | refine CallE.mk _ _ (kturn1) ?_
    | refine CallE.mk _ _ (kturn2) ?_
    | refine CallE.mk _ _ (kquart1) ?_
    | refine CallE.mk _ _ (kquart2') ?_
    | refine CallE.mk _ _ (kside) ?_
    | refine RegE.early (Cd.mk (show regOk _ _ _ _ = true by kernel_rfl) ?_)
    | refine Cd.mk rfl ?_
    | refine Br.t ?_
    | refine Br.f ?_
    | with_reducible refine Br.eqd ?_
    | with_reducible refine Br.eqb ?_
    | with_reducible refine Br.dec (fun _ => ?_) (fun _ => ?_)
    | with_reducible refine Br.ndec (fun _ => ?_) (fun _ => ?_)
    | refine Br.mk (fun _ => ?_) (fun _ => ?_)
    | refine NthE.mk _ rfl ?_
    | refine And.intro (fun _ => ?_) ?_
    | (refine TkE.fL ?_; (conv => whnf); fail_if_success (show forceL _ _))
    | refine TkE.mk _ rfl rfl ?_
    | refine Res.mk ?_
    | refine LateE.mk (by repeat first | exact True.intro | refine And.intro (by kernel_rfl) ?_) ?_
    | refine DsE.mk [] rfl ?_
    | refine LoopEnd.go _ _ ⟨.inl rfl, rfl, rfl, by first | rfl | (repeat first | exact all_nil _ | refine all_la _ _ _ _ _ ?_)⟩ ?_
    | ((with_reducible refine EqE.idW ?_); first | with_reducible refine EqE.mk _ (n_i64 _ (by omega)) ?_ | with_reducible refine EqE.mk _ (n_succ _ (by omega)) ?_ | refine EqE.mk _ (wrap_in (by omega) (by omega)) ?_ | refine EqE.mk _ rfl ?_)
    | ((with_reducible refine EqE.idM ?_); refine EqE.mk _ rfl ?_)
    | ((with_reducible refine EqE.idI ?_); first | refine EqE.mk _ (max_eq _ _) ?_ | refine EqE.mk _ (min_eq _ _) ?_)
    | ((with_reducible refine EqE.idS ?_); first | (refine EqE.fP ?_; (conv => whnf); fail_if_success (show forceL _ _)) | refine EqE.mk _ rfl ?_)
    | ((with_reducible refine EqE.idL ?_); first | refine EqE.mk (csl (kz.map RC.of)) rfl ?_ | refine EqE.mk _ (sl_own _ _ _ _ (by omega) (by omega) rfl) ?_ | refine EqE.mk _ rfl ?_)
    | refine EqE.mk _ rfl ?_
    | refine Cd.mk (Nat.le_of_ble_eq_true rfl) ?_
    | refine Cd.mk ⟨rfl, rfl⟩ ?_
    | refine Cd.mk (by first | omega | (simp only [length_limbs, length_la]; omega)) ?_
    | refine Cd.mk ?_ ?_)
  rfl
theorem few_cx {r : RC} (h : r.few 10 1000 = true) : CxR (.agg r.cells) r.val ∧ CxF (.agg r.cells) r.val ∧ Hc 1320 r.val := ⟨RC.cxR 1000 (by decide) (by decide) (by decide) h, cxF_few 1000 (by decide) (by decide) (by decide) h, RC.hc 1000 1320 (by decide) (by decide) h⟩
end Go.Ev.Ar
