/- Contracts of the given functions, on data. Conditions stand in each theorem. -/
import Derived.Test.YtmgbegcamhkblaaDoorArWindB
set_option linter.unusedSimpArgs false
set_option linter.unusedVariables false
namespace Go.Ev.Ar
open Go Go.Ev Go.Proofs

/-- A row of points in the call's own memory. -/
def rowA (xs : List RC) : List A := (xs.flatMap RC.cells).map A.d
theorem rowA_app (xs : List RC) (r : RC) : rowA xs ++ r.cells.map A.d = rowA (xs ++ [r]) := by unfold rowA; simp
theorem rowA_len (xs : List RC) : (rowA xs).length = xs.length * 6 := by unfold rowA; rw [List.length_map, flat_len]
theorem row_sl (xs : List RC) (n : Nat) (h : xs.length = n) : D.slice n (((xs.flatMap RC.cells).drop 0).take (n * 6)) = csl xs := by
  subst h
  unfold csl; rw [List.drop_zero, List.take_of_length_le (by rw [flat_len]; omega)]
theorem range_map_succ {α : Type} (f : Nat → α) (i : Nat) : (List.range (i + 1)).map f = (List.range i).map f ++ [f i] := by rw [List.range_succ, List.map_append]; rfl
theorem turns_bound : ∀ {l : List (Int × Bool)} {s : Int}, (∀ t ∈ l, -2 ≤ t.1 ∧ t.1 ≤ 2) → turns l = some s → -(2 * (l.length : Int)) ≤ s ∧ s ≤ 2 * l.length
  | [], s, _, h => by simp only [turns, Option.some.injEq] at h; subst h; simp
  | t :: l, s, hb, h => by
    simp only [turns] at h
    split at h
    · simp only [Option.map_eq_some_iff] at h
      obtain ⟨s', h1, rfl⟩ := h
      have h2 := turns_bound (fun t ht => hb t (List.mem_cons_of_mem _ ht)) h1
      have h3 := hb t (by simp)
      rw [List.length_cons]; omega
    · cases h
theorem number_bound (l : List Cq) : -(l.length : Int) ≤ (number l).1 ∧ (number l).1 ≤ l.length := by
  unfold number
  split
  · rename_i s h
    have := turns_bound (fun t ht => by
      unfold ring at ht
      obtain ⟨i, _, rfl⟩ := List.mem_map.1 ht
      exact turn_le _ _) h
    rw [ring_length] at this
    exact tdiv_four this.1 this.2
  · dsimp only; omega
theorem number_is {xs : List RC} {n : Int} {t : Bool} (hlen : xs.length ≤ 100000) (hx : ∀ r ∈ xs, CxR (.agg r.cells) r.val ∧ Hc 200000 r.val) (h : number (xs.map RC.val) = (n, t)) : Sim Tryd.prog G0 true 28 [csl xs] (.tup [.int .i64 n, .bool t]) := by
  have s := number_sim xs hlen hx
  rwa [h] at s
/-- The three rows. -/
def backR (xs : List RC) (q : Nat) : RC := xs.getD (xs.length - 1 - q) RC.nil
def onR (xs : List RC) (k q : Nat) : RC := xs.getD ((q + k) % xs.length) RC.nil
def timR (xs : List RC) (z : Cq) (q : Nat) : RC := RC.of (cmul (xs.getD q RC.nil).val z)
theorem pt_map (f : Nat → RC) (n i : Nat) (h : i < n) : pt (((List.range n).map f).map RC.val) i = (f i).val := by
  unfold pt; simp [h]
theorem pt_xs (xs : List RC) (i : Nat) : pt (xs.map RC.val) i = (xs.getD i RC.nil).val := RC.getD_val xs i
theorem n_sub1i (n i : Nat) (h : i < n) (hn : n ≤ 100000) : IntKind.i64.wrap (((n : Int) - 1) - i) = ((n - 1 - i : Nat) : Int) := by
  rw [wrap_in (by omega) (by omega)]; omega
theorem kr0 (X : List RC) : rowA X = (X.flatMap RC.cells).map A.d := rfl
theorem kr1 (b : Nat) (X : List RC) : A.kills b (rowA X) = (X.flatMap RC.cells).map A.d := A.kills_map _ _
theorem kr2 (b c : Nat) (X : List RC) : A.kills c (A.kills b (rowA X)) = (X.flatMap RC.cells).map A.d := by rw [kr1, A.kills_map]
theorem rl0 (f : Nat → RC) (i : Nat) : (rowA ((List.range i).map f)).length = i * 6 := by rw [rowA_len, List.length_map, List.length_range]
theorem rl1 (f : Nat → RC) (i b : Nat) : (A.kills b (rowA ((List.range i).map f))).length = i * 6 := by rw [length_kills]; exact rl0 f i
theorem rl2 (f : Nat → RC) (i b c : Nat) : (A.kills c (A.kills b (rowA ((List.range i).map f)))).length = i * 6 := by rw [length_kills]; exact rl1 f i b
theorem krr (b : Nat) (X : List RC) : A.kills b (rowA X) = rowA X := A.kills_map _ _
theorem refs_row (ks : List Nat) (X : List RC) : A.refsIns ks (rowA X) = true := A.refsIns_map _ _
theorem one_rc (r : RC) : ∀ c ∈ r.cells, (A.d c).one = true := by
  intro c hc
  simp only [RC.cells, List.mem_cons, List.not_mem_nil, or_false] at hc
  rcases hc with rfl | rfl | rfl | rfl | rfl | rfl <;> rfl
theorem cx_ixI (xs : List RC) (i : Int) (j : Nat) (e : i = j) (h : j < xs.length) : (0 ≤ i ∧ i < (xs.length : Int)) ∧ i.toNat * 6 < (xs.flatMap RC.cells).length := by
  subst e; exact cx_ix xs j h
theorem cx_tkI (xs : List RC) (i : Int) (j : Nat) (e : i = j) (h : j < xs.length) : (((xs.flatMap RC.cells).drop (i.toNat * 6)).drop 0).take 6 = (xs.getD j RC.nil).cells := by
  subst e; exact cx_tk xs j h
set_option maxHeartbeats 8000000 in
theorem windback_sim (xs : List RC) (k : Nat) (r : RC) (hk : k < 256) (hlen : xs.length ≤ 9223372036854775807) : Sim Tryd.prog G0 true 4 [csl xs, .int .u8 k, .agg r.cells] (.bool true) := by
  have sf := fewall_sim xs hlen
  have sr := fewcplx_sim r
  have fr := few_cx (r := r)
  obtain ⟨b, l, e, c, k', f⟩ := r
  refine sim_mk tab_ok Tryd.func4 rfl (by kernel_rfl) rfl ⟨Nat.le_of_ble_eq_true rfl, Nat.le_of_ble_eq_true rfl⟩ ?_
  cases h1 : (xs.all (RC.few 10 1000) && decide (xs.length ≤ 60))
  · rw [h1] at sf
    repeat' ((conv => whnf); first
      | with_reducible refine CallX.data ?_
      | refine CallE.mk _ _ (known_sim) ?_
      | refine CallE.mk _ _ (sf) ?_
      | refine Cd.mk (show regOk _ _ _ _ = true by kernel_rfl) ?_
      | refine Cd.mk rfl ?_
      | refine Br.t ?_
      | refine Br.f ?_
      | with_reducible refine Br.eqd ?_
      | with_reducible refine Br.eqb ?_
      | with_reducible refine Br.dec (fun _ => ?_) (fun _ => ?_)
      | with_reducible refine Br.ndec (fun _ => ?_) (fun _ => ?_)
      | refine Br.mk (fun _ => ?_) (fun _ => ?_)
      | refine NthE.mk _ rfl ?_
      | refine And.intro (fun _ => ?_) ?_
      | refine TkE.mk _ rfl rfl ?_
      | refine Res.mk ?_
      | refine DsE.mk [] rfl ?_
      | refine LoopEnd.go _ _ ⟨.inl rfl, rfl, rfl, by first | rfl | (repeat first | exact all_nil _ | refine all_la _ _ _ _ _ ?_)⟩ ?_
      | ((with_reducible refine EqE.idW ?_); first  | with_reducible refine EqE.mk _ (n_i64 _ (by omega)) ?_ | with_reducible refine EqE.mk _ (n_succ _ (by omega)) ?_ | refine EqE.mk _ (wrap_in (by omega) (by omega)) ?_ | refine EqE.mk _ rfl ?_)
      | ((with_reducible refine EqE.idM ?_); first  | refine EqE.mk _ rfl ?_)
      | ((with_reducible refine EqE.idI ?_); first  | refine EqE.mk _ (max_eq _ _) ?_ | refine EqE.mk _ (min_eq _ _) ?_)
      | ((with_reducible refine EqE.idS ?_); first  | refine EqE.mk _ rfl ?_)
      | ((with_reducible refine EqE.idL ?_); first  | refine EqE.mk _ (sl_own _ _ _ _ (by omega) (by omega) rfl) ?_ | refine EqE.mk _ rfl ?_)
      | refine EqE.mk _ rfl ?_
      | refine Cd.mk (Nat.le_of_ble_eq_true rfl) ?_
      | refine Cd.mk ⟨rfl, rfl⟩ ?_
      | refine Cd.mk (by first | omega | (simp only [length_limbs, length_la]; omega)) ?_
      | refine Cd.mk ?_ ?_)
    rfl
  cases h2 : RC.few 10 1000 ⟨b, l, e, c, k', f⟩
  · rw [h1] at sf
    rw [h2] at sr
    repeat' ((conv => whnf); first
      | with_reducible refine CallX.data ?_
      | refine CallE.mk _ _ (known_sim) ?_
      | refine CallE.mk _ _ (sf) ?_
      | refine CallE.mk _ _ (sr) ?_
      | refine Cd.mk (show regOk _ _ _ _ = true by kernel_rfl) ?_
      | refine Cd.mk rfl ?_
      | refine Br.t ?_
      | refine Br.f ?_
      | with_reducible refine Br.eqd ?_
      | with_reducible refine Br.eqb ?_
      | with_reducible refine Br.dec (fun _ => ?_) (fun _ => ?_)
      | with_reducible refine Br.ndec (fun _ => ?_) (fun _ => ?_)
      | refine Br.mk (fun _ => ?_) (fun _ => ?_)
      | refine NthE.mk _ rfl ?_
      | refine And.intro (fun _ => ?_) ?_
      | refine TkE.mk _ rfl rfl ?_
      | refine Res.mk ?_
      | refine DsE.mk [] rfl ?_
      | refine LoopEnd.go _ _ ⟨.inl rfl, rfl, rfl, by first | rfl | (repeat first | exact all_nil _ | refine all_la _ _ _ _ _ ?_)⟩ ?_
      | ((with_reducible refine EqE.idW ?_); first  | with_reducible refine EqE.mk _ (n_i64 _ (by omega)) ?_ | with_reducible refine EqE.mk _ (n_succ _ (by omega)) ?_ | refine EqE.mk _ (wrap_in (by omega) (by omega)) ?_ | refine EqE.mk _ rfl ?_)
      | ((with_reducible refine EqE.idM ?_); first  | refine EqE.mk _ rfl ?_)
      | ((with_reducible refine EqE.idI ?_); first  | refine EqE.mk _ (max_eq _ _) ?_ | refine EqE.mk _ (min_eq _ _) ?_)
      | ((with_reducible refine EqE.idS ?_); first  | refine EqE.mk _ rfl ?_)
      | ((with_reducible refine EqE.idL ?_); first  | refine EqE.mk _ (sl_own _ _ _ _ (by omega) (by omega) rfl) ?_ | refine EqE.mk _ rfl ?_)
      | refine EqE.mk _ rfl ?_
      | refine Cd.mk (Nat.le_of_ble_eq_true rfl) ?_
      | refine Cd.mk ⟨rfl, rfl⟩ ?_
      | refine Cd.mk (by first | omega | (simp only [length_limbs, length_la]; omega)) ?_
      | refine Cd.mk ?_ ?_)
    rfl
  rw [h1] at sf
  rw [h2] at sr
  obtain ⟨fr1, fr2, fr3⟩ := fr h2
  rw [Bool.and_eq_true] at h1
  have hm : ∀ r ∈ xs, CxR (.agg r.cells) r.val ∧ CxF (.agg r.cells) r.val ∧ Hc 1320 r.val := fun r hr => few_cx (List.all_eq_true.1 h1.1 r hr)
  have hl : xs.length ≤ 60 := of_decide_eq_true h1.2
  by_cases h0 : xs.length = 0
  · repeat' ((conv => whnf); first
      | with_reducible refine CallX.data ?_
      | with_reducible refine Br.dec (fun _ => ?_) (fun h => absurd (by omega) h)
      | refine CallE.mk _ _ (known_sim) ?_
      | refine CallE.mk _ _ (sf) ?_
      | refine CallE.mk _ _ (sr) ?_
      | refine Cd.mk (show regOk _ _ _ _ = true by kernel_rfl) ?_
      | refine Cd.mk rfl ?_
      | refine Br.t ?_
      | refine Br.f ?_
      | with_reducible refine Br.eqd ?_
      | with_reducible refine Br.eqb ?_
      | with_reducible refine Br.dec (fun _ => ?_) (fun _ => ?_)
      | with_reducible refine Br.ndec (fun _ => ?_) (fun _ => ?_)
      | refine Br.mk (fun _ => ?_) (fun _ => ?_)
      | refine NthE.mk _ rfl ?_
      | refine And.intro (fun _ => ?_) ?_
      | refine TkE.mk _ rfl rfl ?_
      | refine Res.mk ?_
      | refine DsE.mk [] rfl ?_
      | refine LoopEnd.go _ _ ⟨.inl rfl, rfl, rfl, by first | rfl | (repeat first | exact all_nil _ | refine all_la _ _ _ _ _ ?_)⟩ ?_
      | ((with_reducible refine EqE.idW ?_); first  | with_reducible refine EqE.mk _ (n_i64 _ (by omega)) ?_ | with_reducible refine EqE.mk _ (n_succ _ (by omega)) ?_ | refine EqE.mk _ (wrap_in (by omega) (by omega)) ?_ | refine EqE.mk _ rfl ?_)
      | ((with_reducible refine EqE.idM ?_); first  | refine EqE.mk _ rfl ?_)
      | ((with_reducible refine EqE.idI ?_); first  | refine EqE.mk _ (max_eq _ _) ?_ | refine EqE.mk _ (min_eq _ _) ?_)
      | ((with_reducible refine EqE.idS ?_); first  | refine EqE.mk _ rfl ?_)
      | ((with_reducible refine EqE.idL ?_); first  | refine EqE.mk _ (sl_own _ _ _ _ (by omega) (by omega) rfl) ?_ | refine EqE.mk _ rfl ?_)
      | refine EqE.mk _ rfl ?_
      | refine Cd.mk (Nat.le_of_ble_eq_true rfl) ?_
      | refine Cd.mk ⟨rfl, rfl⟩ ?_
      | refine Cd.mk (by first | omega | (simp only [length_limbs, length_la]; omega)) ?_
      | refine Cd.mk ?_ ?_)
    rfl
  generalize hz : (⟨b, l, e, c, k', f⟩ : RC).val = z at *
  obtain ⟨⟨n, ok⟩, hN⟩ : ∃ p, number (xs.map RC.val) = p := ⟨_, rfl⟩
  have sn := number_is (n := n) (t := ok) (by omega) (fun r hr => ⟨(hm r hr).1, (hm r hr).2.2.mono (by decide)⟩) hN
  have nb := number_bound (xs.map RC.val)
  rw [hN, List.length_map] at nb
  dsimp only at nb
  repeat' ((conv => whnf); first
    | with_reducible refine CallX.data ?_
    | with_reducible refine Br.dec (fun h => absurd h (by omega)) (fun _ => ?_)
    | refine CallE.mk _ _ (known_sim) ?_
    | refine CallE.mk _ _ (sf) ?_
    | refine CallE.mk _ _ (sr) ?_
    | refine CallE.mk _ _ (sn) ?_
    | refine CallE.mk _ _ (rcplx_sim fr2) ?_
    | refine Cd.mk (show regOk _ _ _ _ = true by kernel_rfl) ?_
    | refine Cd.mk rfl ?_
    | refine Br.t ?_
    | refine Br.f ?_
    | with_reducible refine Br.eqd ?_
    | with_reducible refine Br.eqb ?_
    | with_reducible refine Br.dec (fun _ => ?_) (fun _ => ?_)
    | with_reducible refine Br.ndec (fun _ => ?_) (fun _ => ?_)
    | refine Br.mk (fun _ => ?_) (fun _ => ?_)
    | refine NthE.mk _ rfl ?_
    | refine And.intro (fun _ => ?_) ?_
    | refine TkE.mk _ rfl rfl ?_
    | refine Res.mk ?_
    | refine DsE.mk [] rfl ?_
    | refine LoopEnd.go _ _ ⟨.inl rfl, rfl, rfl, by first | rfl | (repeat first | exact all_nil _ | refine all_la _ _ _ _ _ ?_)⟩ ?_
    | ((with_reducible refine EqE.idW ?_); first  | with_reducible refine EqE.mk _ (n_i64 _ (by omega)) ?_ | with_reducible refine EqE.mk _ (n_succ _ (by omega)) ?_ | refine EqE.mk _ (wrap_in (by omega) (by omega)) ?_ | refine EqE.mk _ rfl ?_)
    | ((with_reducible refine EqE.idM ?_); first  | refine EqE.mk _ rfl ?_)
    | ((with_reducible refine EqE.idI ?_); first  | refine EqE.mk _ (max_eq _ _) ?_ | refine EqE.mk _ (min_eq _ _) ?_)
    | ((with_reducible refine EqE.idS ?_); first  | refine EqE.mk _ rfl ?_)
    | ((with_reducible refine EqE.idL ?_); first  | refine EqE.mk _ (sl_own _ _ _ _ (by omega) (by omega) rfl) ?_ | refine EqE.mk _ rfl ?_)
    | refine EqE.mk _ rfl ?_
    | refine Cd.mk (Nat.le_of_ble_eq_true rfl) ?_
    | refine Cd.mk ⟨rfl, rfl⟩ ?_
    | refine Cd.mk (by first | omega | (simp only [length_limbs, length_la]; omega)) ?_
    | refine Cd.mk ?_ ?_)
  refine ⟨[(9, 500, 6), (10, 501, 6), (11, 502, 6)], [0, 1, 5, 7, 8, 9, 10, 11, 12, 13], [5, 12, 500, 501, 502], fun m ys h => ∃ i : Nat, m = xs.length - i ∧ i ≤ xs.length ∧
    ys = [.d (csl xs), .d (.int .u8 k), .ptr 5 0, .d (.int .i64 n), .d (.bool ok), .own 500 0 i 6, .own 501 0 i 6, .own 502 0 i 6, .ptr 12 0, .d (.int .i64 i)] ∧
    h = [(502, false, rowA ((List.range i).map (timR xs z))), (501, false, rowA ((List.range i).map (onR xs k))), (500, false, rowA ((List.range i).map (backR xs))), (12, false, (RC.of z).cells.map A.d), (5, false, (⟨b, l, e, c, k', f⟩ : RC).cells.map A.d)],
    ⟨rfl, rfl, ⟨Nat.le_of_ble_eq_true rfl, Nat.le_of_ble_eq_true rfl⟩, rfl, rfl, ⟨Nat.le_of_ble_eq_true rfl, Nat.le_of_ble_eq_true rfl⟩, rfl, rfl, ⟨Nat.le_of_ble_eq_true rfl, Nat.le_of_ble_eq_true rfl⟩, ⟨_, _, _, ⟨.inl rfl, rfl, rfl, by first | rfl | (repeat first | exact all_nil _ | refine all_la _ _ _ _ _ ?_)⟩, 0, rfl, by omega, rfl, rfl⟩⟩, ?_⟩
  rintro m ys h ⟨i, rfl, hi, rfl, rfl⟩
  by_cases hlt : i < xs.length
  · have hj2 : (i + k) % xs.length < xs.length := Nat.mod_lt _ (by omega)
    have hq := hm _ (RC.getD_mem hlt)
    have hcm := rcmul_sim (a := (xs.getD i RC.nil).val) (b := z) (hq.2.2.mono (by decide)) (fr3.mono (by decide)) rfl
    obtain ⟨r1, e1⟩ : ∃ r1, xs.getD (xs.length - 1 - i) RC.nil = r1 := ⟨_, rfl⟩
    obtain ⟨r2, e2⟩ : ∃ r1, xs.getD ((i + k) % xs.length) RC.nil = r1 := ⟨_, rfl⟩
    obtain ⟨r3, e3⟩ : ∃ r1, xs.getD i RC.nil = r1 := ⟨_, rfl⟩
    have k1 := range_map_succ (backR xs) i
    have k2 := range_map_succ (onR xs k) i
    have k3 := range_map_succ (timR xs z) i
    rw [show backR xs i = r1 from e1] at k1
    rw [show onR xs k i = r2 from e2] at k2
    rw [e3] at hq hcm
    obtain ⟨w, ew⟩ : ∃ w, cmul r3.val z = w := ⟨_, rfl⟩
    rw [ew] at hcm
    rw [show timR xs z i = RC.of w by unfold timR; rw [e3, ew]] at k3
    repeat' ((conv => whnf); first
      | with_reducible refine CallX.data ?_
      | refine LoopEnd.mk (xs.length - (i + 1)) [.d (csl xs), .d (.int .u8 k), .ptr 5 0, .d (.int .i64 n), .d (.bool ok), .own 500 0 (i + 1) 6, .own 501 0 (i + 1) 6, .own 502 0 (i + 1) 6, .ptr 12 0, .d (.int .i64 (i + 1 : Nat))] [(502, false, rowA ((List.range (i + 1)).map (timR xs z))), (501, false, rowA ((List.range (i + 1)).map (onR xs k))), (500, false, rowA ((List.range (i + 1)).map (backR xs))), (12, false, (RC.of z).cells.map A.d), (5, false, (⟨b, l, e, c, k', f⟩ : RC).cells.map A.d)] ⟨.inl rfl, ?_, rfl, ?_⟩ (by omega) ⟨i + 1, rfl, by omega, rfl, rfl⟩
      | refine DsE.mk r1.cells rfl ?_
      | refine DsE.mk r2.cells rfl ?_
      | refine DsE.mk (RC.of w).cells rfl ?_
      | refine DsE.mk _ (kr0 _) ?_
      | refine DsE.mk _ (kr1 _ _) ?_
      | refine DsE.mk _ (kr2 _ _ _) ?_
      | refine Cd.mk (one_rc r1) ?_
      | refine Cd.mk (one_rc r2) ?_
      | refine Cd.mk (one_rc (RC.of w)) ?_
      | refine Cd.mk (rl0 _ _) ?_
      | refine Cd.mk (rl1 _ _ _) ?_
      | refine Cd.mk (rl2 _ _ _ _) ?_
      | refine Cd.mk (by dsimp only; omega) ?_
      | with_reducible refine Br.dec (fun _ => ?_) (fun h => absurd (by omega) h)
      | refine CallE.mk _ _ (rcplx_sim hq.2.1) ?_
      | refine CallE.mk _ _ (hcm) ?_
      | refine Cd.mk (cx_ixI xs _ (xs.length - 1 - i) (by omega) (by omega)) ?_
      | refine Cd.mk (cx_ixI xs _ ((i + k) % xs.length) rfl hj2) ?_
      | refine Cd.mk (cx_ixI xs _ i rfl hlt) ?_
      | refine TkE.mk _ ((cx_tkI xs _ (xs.length - 1 - i) (by omega) (by omega)).trans (congrArg RC.cells e1)) rfl ?_
      | refine TkE.mk _ ((cx_tkI xs _ ((i + k) % xs.length) rfl hj2).trans (congrArg RC.cells e2)) rfl ?_
      | refine TkE.mk _ ((cx_tkI xs _ i rfl hlt).trans (congrArg RC.cells e3)) rfl ?_
      | refine Cd.mk (show regOk _ _ _ _ = true by kernel_rfl) ?_
      | refine Cd.mk rfl ?_
      | refine Br.t ?_
      | refine Br.f ?_
      | with_reducible refine Br.eqd ?_
      | with_reducible refine Br.eqb ?_
      | with_reducible refine Br.dec (fun _ => ?_) (fun _ => ?_)
      | with_reducible refine Br.ndec (fun _ => ?_) (fun _ => ?_)
      | refine Br.mk (fun _ => ?_) (fun _ => ?_)
      | refine NthE.mk _ rfl ?_
      | refine And.intro (fun _ => ?_) ?_
      | refine TkE.mk _ rfl rfl ?_
      | refine Res.mk ?_
      | refine DsE.mk [] rfl ?_
      | refine LoopEnd.go _ _ ⟨.inl rfl, rfl, rfl, by first | rfl | (repeat first | exact all_nil _ | refine all_la _ _ _ _ _ ?_)⟩ ?_
      | ((with_reducible refine EqE.idW ?_); first | refine EqE.mk _ (n_iadd _ _ (by omega)) ?_ | with_reducible refine EqE.mk _ (n_i64 _ (by omega)) ?_ | with_reducible refine EqE.mk _ (n_succ _ (by omega)) ?_ | refine EqE.mk _ (wrap_in (by omega) (by omega)) ?_ | refine EqE.mk _ rfl ?_)
      | ((with_reducible refine EqE.idM ?_); first | refine EqE.mk _ (n_rem _ _) ?_ | refine EqE.mk _ rfl ?_)
      | ((with_reducible refine EqE.idI ?_); first  | refine EqE.mk _ (max_eq _ _) ?_ | refine EqE.mk _ (min_eq _ _) ?_)
      | ((with_reducible refine EqE.idS ?_); first  | refine EqE.mk _ rfl ?_)
      | ((with_reducible refine EqE.idL ?_); first  | refine EqE.mk _ (sl_own _ _ _ _ (by omega) (by omega) rfl) ?_ | refine EqE.mk _ rfl ?_)
      | refine EqE.mk _ rfl ?_
      | refine Cd.mk (Nat.le_of_ble_eq_true rfl) ?_
      | refine Cd.mk ⟨rfl, rfl⟩ ?_
      | refine Cd.mk (by first | omega | (simp only [length_limbs, length_la]; omega)) ?_
      | refine Cd.mk ?_ ?_)
    · show [(502, false, A.kills 501 (A.kills 500 (rowA ((List.range i).map (timR xs z)))) ++ (RC.of w).cells.map A.d), (501, false, A.kills 502 (A.kills 500 (rowA ((List.range i).map (onR xs k))) ++ r2.cells.map A.d)), (500, false, A.kills 502 (A.kills 501 (rowA ((List.range i).map (backR xs)) ++ r1.cells.map A.d))), (12, false, A.kills 502 (A.kills 501 (A.kills 500 ((RC.of z).cells.map A.d)))), (5, false, A.kills 502 (A.kills 501 (A.kills 500 ((⟨b, l, e, c, k', f⟩ : RC).cells.map A.d))))] = _
      simp only [krr, rowA_app, A.kills_map, k1, k2, k3]
    · simp [refs_row]
  obtain rfl : i = xs.length := by omega
  clear hi hlt
  have lb : ((List.range xs.length).map (backR xs)).length = xs.length := by simp
  have lo : ((List.range xs.length).map (onR xs k)).length = xs.length := by simp
  have lt : ((List.range xs.length).map (timR xs z)).length = xs.length := by simp
  have mb : ∀ r ∈ (List.range xs.length).map (backR xs), CxR (.agg r.cells) r.val ∧ Hc 200000 r.val := by
    intro r hr
    obtain ⟨q, hq, rfl⟩ := List.mem_map.1 hr
    have := hm _ (RC.getD_mem (i := xs.length - 1 - q) (xs := xs) (by omega))
    exact ⟨this.1, this.2.2.mono (by decide)⟩
  have mo : ∀ r ∈ (List.range xs.length).map (onR xs k), CxR (.agg r.cells) r.val ∧ Hc 200000 r.val := by
    intro r hr
    obtain ⟨q, hq, rfl⟩ := List.mem_map.1 hr
    have := hm _ (RC.getD_mem (i := (q + k) % xs.length) (xs := xs) (Nat.mod_lt _ (by omega)))
    exact ⟨this.1, this.2.2.mono (by decide)⟩
  have mt : ∀ r ∈ (List.range xs.length).map (timR xs z), CxR (.agg r.cells) r.val ∧ Hc 200000 r.val := by
    intro r hr
    obtain ⟨q, hq, rfl⟩ := List.mem_map.1 hr
    have := (hm _ (RC.getD_mem (i := q) (xs := xs) (List.mem_range.1 hq))).2.2
    generalize (xs.getD q RC.nil).val = y at this
    have hc : Hc 3000 (cmul (xs.getD q RC.nil).val z) := by
      have := (hm _ (RC.getD_mem (i := q) (xs := xs) (List.mem_range.1 hq))).2.2
      exact ⟨(this.1.mul fr3.1 (c := 2640) (by decide)).sub (this.2.mul fr3.2 (c := 2640) (by decide)) (by decide), (this.1.mul fr3.2 (c := 2640) (by decide)).add (this.2.mul fr3.1 (c := 2640) (by decide)) (by decide)⟩
    unfold timR
    rw [RC.of_val, RC.of_cells]
    exact ⟨.of (hc.mono (by decide)), hc.mono (by decide)⟩
  have lv : (xs.map RC.val).length = xs.length := by simp
  have Nb : number (((List.range xs.length).map (backR xs)).map RC.val) = (-n, ok) := by
    have := number_back (xs.map RC.val) (((List.range xs.length).map (backR xs)).map RC.val) (by simp) (by
      rw [lv]
      intro i hi
      rw [pt_map _ _ _ hi, pt_xs]; rfl)
    rw [hN] at this; exact this
  have No : number (((List.range xs.length).map (onR xs k)).map RC.val) = (n, ok) := by
    have := number_on (xs.map RC.val) (((List.range xs.length).map (onR xs k)).map RC.val) k (by simp) (by
      rw [lv]
      intro i hi
      rw [pt_map _ _ _ hi, pt_xs]; rfl)
    rw [hN] at this; exact this
  have sb := number_is (by omega) mb Nb
  have so := number_is (by omega) mo No
  have hzz := rczero_sim (a := z) (t := decide (z = (0, 0))) (fr3.mono (by decide)) rfl
  by_cases hz0 : quart z < 0
  · have hz1 : z = (0, 0) := Prod.ext (quart_neg hz0).1 (quart_neg hz0).2
    rw [decide_eq_true hz1] at hzz
    have Nt : number (((List.range xs.length).map (timR xs z)).map RC.val) = (0, false) := by
      refine number_null _ (by rw [List.length_map, lt]; exact h0) fun i hi => ?_
      rw [pt_map _ _ _ (by simpa using hi)]
      unfold timR
      rw [RC.of_val, cmul_comm, cmul_zero_l hz0]; decide
    have st := number_is (by omega) mt Nt
    cases ok <;>
    repeat' ((conv => whnf); first
      | with_reducible refine CallX.data ?_
      | with_reducible refine Br.dec (fun h => absurd h (by omega)) (fun _ => ?_)
      | refine DsE.mk _ (kr0 _) ?_
      | refine DsE.mk _ (kr1 _ _) ?_
      | refine DsE.mk _ (kr2 _ _ _) ?_
      | refine CallE.mk _ _ (sb) ?_
      | refine CallE.mk _ _ (so) ?_
      | refine CallE.mk _ _ (st) ?_
      | refine CallE.mk _ _ (hzz) ?_
      | refine Cd.mk (show regOk _ _ _ _ = true by kernel_rfl) ?_
      | refine Cd.mk rfl ?_
      | refine Br.t ?_
      | refine Br.f ?_
      | with_reducible refine Br.eqd ?_
      | with_reducible refine Br.eqb ?_
      | with_reducible refine Br.dec (fun _ => ?_) (fun _ => ?_)
      | with_reducible refine Br.ndec (fun _ => ?_) (fun _ => ?_)
      | refine Br.mk (fun _ => ?_) (fun _ => ?_)
      | refine NthE.mk _ rfl ?_
      | refine And.intro (fun _ => ?_) ?_
      | refine TkE.mk _ rfl rfl ?_
      | refine Res.mk ?_
      | refine DsE.mk [] rfl ?_
      | refine LoopEnd.go _ _ ⟨.inl rfl, rfl, rfl, by first | rfl | (repeat first | exact all_nil _ | refine all_la _ _ _ _ _ ?_)⟩ ?_
      | ((with_reducible refine EqE.idW ?_); first  | with_reducible refine EqE.mk _ (n_i64 _ (by omega)) ?_ | with_reducible refine EqE.mk _ (n_succ _ (by omega)) ?_ | refine EqE.mk _ (wrap_in (by omega) (by omega)) ?_ | refine EqE.mk _ rfl ?_)
      | ((with_reducible refine EqE.idM ?_); first  | refine EqE.mk _ rfl ?_)
      | ((with_reducible refine EqE.idI ?_); first  | refine EqE.mk _ (max_eq _ _) ?_ | refine EqE.mk _ (min_eq _ _) ?_)
      | ((with_reducible refine EqE.idS ?_); first  | refine EqE.mk _ rfl ?_)
      | ((with_reducible refine EqE.idL ?_); first | refine EqE.mk _ (row_sl _ _ lb) ?_ | refine EqE.mk _ (row_sl _ _ lo) ?_ | refine EqE.mk _ (row_sl _ _ lt) ?_ | refine EqE.mk _ (sl_own _ _ _ _ (by omega) (by omega) rfl) ?_ | refine EqE.mk _ rfl ?_)
      | refine EqE.mk _ rfl ?_
      | refine Cd.mk (Nat.le_of_ble_eq_true rfl) ?_
      | refine Cd.mk ⟨rfl, rfl⟩ ?_
      | refine Cd.mk (by first | omega | (simp only [length_limbs, length_la]; omega)) ?_
      | refine Cd.mk ?_ ?_)
    all_goals first | rfl | (exact congrArg D.bool (decide_eq_true rfl).symm) | (exfalso; omega) | (trace_state; sorry)
  · have hz1 : ¬ z = (0, 0) := fun h => hz0 (by rw [h]; decide)
    rw [decide_eq_false hz1] at hzz
    have Nt : number (((List.range xs.length).map (timR xs z)).map RC.val) = (n, ok) := by
      have := number_times (xs.map RC.val) (((List.range xs.length).map (timR xs z)).map RC.val) z (by omega) (by simp) (by
        rw [lv]
        intro i hi
        rw [pt_map _ _ _ hi, pt_xs]
        unfold timR
        rw [RC.of_val])
      rw [hN] at this; exact this
    have st := number_is (by omega) mt Nt
    cases ok <;>
    repeat' ((conv => whnf); first
      | with_reducible refine CallX.data ?_
      | with_reducible refine Br.dec (fun h => absurd h (by omega)) (fun _ => ?_)
      | refine DsE.mk _ (kr0 _) ?_
      | refine DsE.mk _ (kr1 _ _) ?_
      | refine DsE.mk _ (kr2 _ _ _) ?_
      | refine CallE.mk _ _ (sb) ?_
      | refine CallE.mk _ _ (so) ?_
      | refine CallE.mk _ _ (st) ?_
      | refine CallE.mk _ _ (hzz) ?_
      | refine Cd.mk (show regOk _ _ _ _ = true by kernel_rfl) ?_
      | refine Cd.mk rfl ?_
      | refine Br.t ?_
      | refine Br.f ?_
      | with_reducible refine Br.eqd ?_
      | with_reducible refine Br.eqb ?_
      | with_reducible refine Br.dec (fun _ => ?_) (fun _ => ?_)
      | with_reducible refine Br.ndec (fun _ => ?_) (fun _ => ?_)
      | refine Br.mk (fun _ => ?_) (fun _ => ?_)
      | refine NthE.mk _ rfl ?_
      | refine And.intro (fun _ => ?_) ?_
      | refine TkE.mk _ rfl rfl ?_
      | refine Res.mk ?_
      | refine DsE.mk [] rfl ?_
      | refine LoopEnd.go _ _ ⟨.inl rfl, rfl, rfl, by first | rfl | (repeat first | exact all_nil _ | refine all_la _ _ _ _ _ ?_)⟩ ?_
      | ((with_reducible refine EqE.idW ?_); first  | with_reducible refine EqE.mk _ (n_i64 _ (by omega)) ?_ | with_reducible refine EqE.mk _ (n_succ _ (by omega)) ?_ | refine EqE.mk _ (wrap_in (by omega) (by omega)) ?_ | refine EqE.mk _ rfl ?_)
      | ((with_reducible refine EqE.idM ?_); first  | refine EqE.mk _ rfl ?_)
      | ((with_reducible refine EqE.idI ?_); first  | refine EqE.mk _ (max_eq _ _) ?_ | refine EqE.mk _ (min_eq _ _) ?_)
      | ((with_reducible refine EqE.idS ?_); first  | refine EqE.mk _ rfl ?_)
      | ((with_reducible refine EqE.idL ?_); first | refine EqE.mk _ (row_sl _ _ lb) ?_ | refine EqE.mk _ (row_sl _ _ lo) ?_ | refine EqE.mk _ (row_sl _ _ lt) ?_ | refine EqE.mk _ (sl_own _ _ _ _ (by omega) (by omega) rfl) ?_ | refine EqE.mk _ rfl ?_)
      | refine EqE.mk _ rfl ?_
      | refine Cd.mk (Nat.le_of_ble_eq_true rfl) ?_
      | refine Cd.mk ⟨rfl, rfl⟩ ?_
      | refine Cd.mk (by first | omega | (simp only [length_limbs, length_la]; omega)) ?_
      | refine Cd.mk ?_ ?_)
    all_goals first | rfl | (exact congrArg D.bool (decide_eq_true rfl).symm) | (exfalso; omega) | (trace_state; sorry)
theorem windback_at (xs : List RC) (n : Int) (r : RC) (hlen : xs.length ≤ 9223372036854775807) (h0 : 0 ≤ n) (h1 : n ≤ 255) : Sim Tryd.prog G0 true 4 [csl xs, .int .u8 n, .agg r.cells] (.bool true) := by
  have := windback_sim xs n.toNat r (by omega) hlen
  rwa [show ((n.toNat : Nat) : Int) = n by omega] at this
end Go.Ev.Ar
