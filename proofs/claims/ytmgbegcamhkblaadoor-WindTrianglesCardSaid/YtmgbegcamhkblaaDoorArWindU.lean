/- Contracts of the given functions, on data. Conditions stand in each theorem. -/
import Derived.Test.YtmgbegcamhkblaaDoorArWindT
set_option linter.unusedSimpArgs false
set_option linter.unusedVariables false
namespace Go.Ev.Ar
open Go Go.Ev Go.Proofs

theorem number_is {xs : List RC} {n : Int} {t : Bool} (hlen : xs.length ≤ 100000) (hx : ∀ r ∈ xs, CxR (.agg r.cells) r.val ∧ Hc 200000 r.val) (h : number (xs.map RC.val) = (n, t)) : Sim Tryd.prog G0 true 28 [csl xs] (.tup [.int .i64 n, .bool t]) := by
  have s := number_sim xs hlen hx
  rwa [h] at s
theorem dsg_rng (q : Dyadic) : -1 ≤ dsg q ∧ dsg q ≤ 1 := by rcases dsg_cases q with h | h | h <;> omega
set_option maxHeartbeats 8000000 in
theorem windtriangles_sim (r s t : RC) : Sim Tryd.prog G0 true 6 [.agg r.cells, .agg s.cells, .agg t.cells] (.bool true) := by
  have sr := fewcplx_sim r
  have ss := fewcplx_sim s
  have st := fewcplx_sim t
  have fr := few_cx (r := r)
  have fs := few_cx (r := s)
  have ft := few_cx (r := t)
  have nm := fun n t' => number_is (xs := [r, s, t]) (n := n) (t := t') (by show 3 ≤ 100000; decide)
  obtain ⟨b, l, e, c, k, f⟩ := r
  obtain ⟨b', l', e', c', k', f'⟩ := s
  obtain ⟨b'', l'', e'', c'', k'', f''⟩ := t
  refine sim_mk tab_ok Tryd.func6 rfl (by kernel_rfl) rfl ⟨Nat.le_of_ble_eq_true rfl, Nat.le_of_ble_eq_true rfl⟩ ?_
  cases h1 : RC.few 10 1000 ⟨b, l, e, c, k, f⟩
  · rw [h1] at sr
    repeat' ((conv => whnf); first
      | with_reducible refine CallX.data ?_
      | refine CallE.mk _ _ (known_sim) ?_
      | refine CallE.mk _ _ (sr) ?_
      | refine Cd.mk (show regOk _ _ _ _ = true by kernel_rfl) ?_
      | refine Cd.mk rfl ?_
      | refine Br.t ?_
      | refine Br.f ?_
      | with_reducible refine Br.eqd ?_
      | with_reducible refine Br.eqb ?_
      | with_reducible refine Br.dec (fun _ => ?_) (fun _ => ?_)
      | with_reducible refine Br.ndec (fun _ => ?_) (fun _ => ?_)
      | refine Br.mk (fun _ => ?_) (fun _ => ?_)
      | refine NthE.mk _ rfl ?_
      | refine And.intro (fun _ => ?_) ?_
      | refine TkE.mk _ rfl rfl ?_
      | refine Res.mk ?_
      | refine DsE.mk [] rfl ?_
      | refine LoopEnd.go _ _ ⟨.inl rfl, rfl, rfl, by first | rfl | (repeat first | exact all_nil _ | refine all_la _ _ _ _ _ ?_)⟩ ?_
      | ((with_reducible refine EqE.idW ?_); first  | with_reducible refine EqE.mk _ (n_i64 _ (by omega)) ?_ | with_reducible refine EqE.mk _ (n_succ _ (by omega)) ?_ | refine EqE.mk _ (wrap_in (by omega) (by omega)) ?_ | refine EqE.mk _ rfl ?_)
      | ((with_reducible refine EqE.idM ?_); first  | refine EqE.mk _ rfl ?_)
      | ((with_reducible refine EqE.idI ?_); first  | refine EqE.mk _ (max_eq _ _) ?_ | refine EqE.mk _ (min_eq _ _) ?_)
      | ((with_reducible refine EqE.idS ?_); first  | refine EqE.mk _ rfl ?_)
      | ((with_reducible refine EqE.idL ?_); first  | refine EqE.mk _ (sl_own _ _ _ _ (by omega) (by omega) rfl) ?_ | refine EqE.mk _ rfl ?_)
      | refine EqE.mk _ rfl ?_
      | refine Cd.mk (Nat.le_of_ble_eq_true rfl) ?_
      | refine Cd.mk ⟨rfl, rfl⟩ ?_
      | refine Cd.mk (by first | omega | (simp only [length_limbs, length_la]; omega)) ?_
      | refine Cd.mk ?_ ?_)
    rfl
  cases h2 : RC.few 10 1000 ⟨b', l', e', c', k', f'⟩
  · rw [h1] at sr
    rw [h2] at ss
    repeat' ((conv => whnf); first
      | with_reducible refine CallX.data ?_
      | refine CallE.mk _ _ (known_sim) ?_
      | refine CallE.mk _ _ (sr) ?_
      | refine CallE.mk _ _ (ss) ?_
      | refine Cd.mk (show regOk _ _ _ _ = true by kernel_rfl) ?_
      | refine Cd.mk rfl ?_
      | refine Br.t ?_
      | refine Br.f ?_
      | with_reducible refine Br.eqd ?_
      | with_reducible refine Br.eqb ?_
      | with_reducible refine Br.dec (fun _ => ?_) (fun _ => ?_)
      | with_reducible refine Br.ndec (fun _ => ?_) (fun _ => ?_)
      | refine Br.mk (fun _ => ?_) (fun _ => ?_)
      | refine NthE.mk _ rfl ?_
      | refine And.intro (fun _ => ?_) ?_
      | refine TkE.mk _ rfl rfl ?_
      | refine Res.mk ?_
      | refine DsE.mk [] rfl ?_
      | refine LoopEnd.go _ _ ⟨.inl rfl, rfl, rfl, by first | rfl | (repeat first | exact all_nil _ | refine all_la _ _ _ _ _ ?_)⟩ ?_
      | ((with_reducible refine EqE.idW ?_); first  | with_reducible refine EqE.mk _ (n_i64 _ (by omega)) ?_ | with_reducible refine EqE.mk _ (n_succ _ (by omega)) ?_ | refine EqE.mk _ (wrap_in (by omega) (by omega)) ?_ | refine EqE.mk _ rfl ?_)
      | ((with_reducible refine EqE.idM ?_); first  | refine EqE.mk _ rfl ?_)
      | ((with_reducible refine EqE.idI ?_); first  | refine EqE.mk _ (max_eq _ _) ?_ | refine EqE.mk _ (min_eq _ _) ?_)
      | ((with_reducible refine EqE.idS ?_); first  | refine EqE.mk _ rfl ?_)
      | ((with_reducible refine EqE.idL ?_); first  | refine EqE.mk _ (sl_own _ _ _ _ (by omega) (by omega) rfl) ?_ | refine EqE.mk _ rfl ?_)
      | refine EqE.mk _ rfl ?_
      | refine Cd.mk (Nat.le_of_ble_eq_true rfl) ?_
      | refine Cd.mk ⟨rfl, rfl⟩ ?_
      | refine Cd.mk (by first | omega | (simp only [length_limbs, length_la]; omega)) ?_
      | refine Cd.mk ?_ ?_)
    rfl
  cases h3 : RC.few 10 1000 ⟨b'', l'', e'', c'', k'', f''⟩
  · rw [h1] at sr
    rw [h2] at ss
    rw [h3] at st
    repeat' ((conv => whnf); first
      | with_reducible refine CallX.data ?_
      | refine CallE.mk _ _ (known_sim) ?_
      | refine CallE.mk _ _ (sr) ?_
      | refine CallE.mk _ _ (ss) ?_
      | refine CallE.mk _ _ (st) ?_
      | refine Cd.mk (show regOk _ _ _ _ = true by kernel_rfl) ?_
      | refine Cd.mk rfl ?_
      | refine Br.t ?_
      | refine Br.f ?_
      | with_reducible refine Br.eqd ?_
      | with_reducible refine Br.eqb ?_
      | with_reducible refine Br.dec (fun _ => ?_) (fun _ => ?_)
      | with_reducible refine Br.ndec (fun _ => ?_) (fun _ => ?_)
      | refine Br.mk (fun _ => ?_) (fun _ => ?_)
      | refine NthE.mk _ rfl ?_
      | refine And.intro (fun _ => ?_) ?_
      | refine TkE.mk _ rfl rfl ?_
      | refine Res.mk ?_
      | refine DsE.mk [] rfl ?_
      | refine LoopEnd.go _ _ ⟨.inl rfl, rfl, rfl, by first | rfl | (repeat first | exact all_nil _ | refine all_la _ _ _ _ _ ?_)⟩ ?_
      | ((with_reducible refine EqE.idW ?_); first  | with_reducible refine EqE.mk _ (n_i64 _ (by omega)) ?_ | with_reducible refine EqE.mk _ (n_succ _ (by omega)) ?_ | refine EqE.mk _ (wrap_in (by omega) (by omega)) ?_ | refine EqE.mk _ rfl ?_)
      | ((with_reducible refine EqE.idM ?_); first  | refine EqE.mk _ rfl ?_)
      | ((with_reducible refine EqE.idI ?_); first  | refine EqE.mk _ (max_eq _ _) ?_ | refine EqE.mk _ (min_eq _ _) ?_)
      | ((with_reducible refine EqE.idS ?_); first  | refine EqE.mk _ rfl ?_)
      | ((with_reducible refine EqE.idL ?_); first  | refine EqE.mk _ (sl_own _ _ _ _ (by omega) (by omega) rfl) ?_ | refine EqE.mk _ rfl ?_)
      | refine EqE.mk _ rfl ?_
      | refine Cd.mk (Nat.le_of_ble_eq_true rfl) ?_
      | refine Cd.mk ⟨rfl, rfl⟩ ?_
      | refine Cd.mk (by first | omega | (simp only [length_limbs, length_la]; omega)) ?_
      | refine Cd.mk ?_ ?_)
    rfl
  rw [h1] at sr
  rw [h2] at ss
  rw [h3] at st
  obtain ⟨fr1, fr2, fr3⟩ := fr h1
  obtain ⟨fs1, fs2, fs3⟩ := fs h2
  obtain ⟨ft1, ft2, ft3⟩ := ft h3
  have hm : ∀ x ∈ [(⟨b, l, e, c, k, f⟩ : RC), ⟨b', l', e', c', k', f'⟩, ⟨b'', l'', e'', c'', k'', f''⟩], CxR (.agg x.cells) x.val ∧ Hc 200000 x.val := by
    intro x hx
    rw [List.mem_cons, List.mem_cons, List.mem_singleton] at hx
    rcases hx with hx | hx | hx <;> rw [hx]
    · exact ⟨fr1, fr3.mono (by decide)⟩
    · exact ⟨fs1, fs3.mono (by decide)⟩
    · exact ⟨ft1, ft3.mono (by decide)⟩
  have nn := fun n t' (h : number [(⟨b, l, e, c, k, f⟩ : RC).val, (⟨b', l', e', c', k', f'⟩ : RC).val, (⟨b'', l'', e'', c'', k'', f''⟩ : RC).val] = (n, t')) => nm n t' hm h
  have S1 := side_sim fr1 fs1 (fr3.mono (show 1320 ≤ 200000 by decide)) (fs3.mono (by decide))
  have S2 := side_sim fs1 ft1 (fs3.mono (show 1320 ≤ 200000 by decide)) (ft3.mono (by decide))
  have S3 := side_sim ft1 fr1 (ft3.mono (show 1320 ≤ 200000 by decide)) (fr3.mono (by decide))
  have T := triangle (⟨b, l, e, c, k, f⟩ : RC).val (⟨b', l', e', c', k', f'⟩ : RC).val (⟨b'', l'', e'', c'', k'', f''⟩ : RC).val
  have p1 := dsg_rng (cross (⟨b, l, e, c, k, f⟩ : RC).val (⟨b', l', e', c', k', f'⟩ : RC).val)
  have p2 := dsg_rng (cross (⟨b', l', e', c', k', f'⟩ : RC).val (⟨b'', l'', e'', c'', k'', f''⟩ : RC).val)
  have p3 := dsg_rng (cross (⟨b'', l'', e'', c'', k'', f''⟩ : RC).val (⟨b, l, e, c, k, f⟩ : RC).val)
  generalize dsg (cross (⟨b, l, e, c, k, f⟩ : RC).val (⟨b', l', e', c', k', f'⟩ : RC).val) = P at *
  generalize dsg (cross (⟨b', l', e', c', k', f'⟩ : RC).val (⟨b'', l'', e'', c'', k'', f''⟩ : RC).val) = Q at *
  generalize dsg (cross (⟨b'', l'', e'', c'', k'', f''⟩ : RC).val (⟨b, l, e, c, k, f⟩ : RC).val) = R at *
  rcases T with ⟨hN, T⟩ | ⟨hN, T⟩ | ⟨hN, T⟩ | ⟨hN, T⟩
  all_goals
    have N := nn _ _ hN
    repeat' ((conv => whnf); first
      | with_reducible refine CallX.data ?_
      | refine CallE.mk _ _ (known_sim) ?_
      | refine CallE.mk _ _ (sr) ?_
      | refine CallE.mk _ _ (ss) ?_
      | refine CallE.mk _ _ (st) ?_
      | refine DsE.mk (([(⟨b, l, e, c, k, f⟩ : RC), ⟨b', l', e', c', k', f'⟩, ⟨b'', l'', e'', c'', k'', f''⟩] : List RC).flatMap RC.cells) rfl ?_
      | refine CallE.mk _ _ (N) ?_
      | refine CallE.mk _ _ (S1) ?_
      | refine CallE.mk _ _ (S2) ?_
      | refine CallE.mk _ _ (S3) ?_
      | with_reducible refine Br.dec (fun _ => ?_) (fun h => absurd (by omega) h)
      | with_reducible refine Br.dec (fun h => absurd h (by omega)) (fun _ => ?_)
      | refine Cd.mk (show regOk _ _ _ _ = true by kernel_rfl) ?_
      | refine Cd.mk rfl ?_
      | refine Br.t ?_
      | refine Br.f ?_
      | with_reducible refine Br.eqd ?_
      | with_reducible refine Br.eqb ?_
      | with_reducible refine Br.dec (fun _ => ?_) (fun _ => ?_)
      | with_reducible refine Br.ndec (fun _ => ?_) (fun _ => ?_)
      | refine Br.mk (fun _ => ?_) (fun _ => ?_)
      | refine NthE.mk _ rfl ?_
      | refine And.intro (fun _ => ?_) ?_
      | refine TkE.mk _ rfl rfl ?_
      | refine Res.mk ?_
      | refine DsE.mk [] rfl ?_
      | refine LoopEnd.go _ _ ⟨.inl rfl, rfl, rfl, by first | rfl | (repeat first | exact all_nil _ | refine all_la _ _ _ _ _ ?_)⟩ ?_
      | ((with_reducible refine EqE.idW ?_); first  | with_reducible refine EqE.mk _ (n_i64 _ (by omega)) ?_ | with_reducible refine EqE.mk _ (n_succ _ (by omega)) ?_ | refine EqE.mk _ (wrap_in (by omega) (by omega)) ?_ | refine EqE.mk _ rfl ?_)
      | ((with_reducible refine EqE.idM ?_); first  | refine EqE.mk _ rfl ?_)
      | ((with_reducible refine EqE.idI ?_); first  | refine EqE.mk _ (max_eq _ _) ?_ | refine EqE.mk _ (min_eq _ _) ?_)
      | ((with_reducible refine EqE.idS ?_); first  | refine EqE.mk _ rfl ?_)
      | ((with_reducible refine EqE.idL ?_); first | refine EqE.mk (csl [(⟨b, l, e, c, k, f⟩ : RC), ⟨b', l', e', c', k', f'⟩, ⟨b'', l'', e'', c'', k'', f''⟩]) rfl ?_ | refine EqE.mk _ (sl_own _ _ _ _ (by omega) (by omega) rfl) ?_ | refine EqE.mk _ rfl ?_)
      | refine EqE.mk _ rfl ?_
      | refine Cd.mk (Nat.le_of_ble_eq_true rfl) ?_
      | refine Cd.mk ⟨rfl, rfl⟩ ?_
      | refine Cd.mk (by first | omega | (simp only [length_limbs, length_la]; omega)) ?_
      | refine Cd.mk ?_ ?_)
    all_goals first | rfl | (exfalso; omega)
end Go.Ev.Ar
