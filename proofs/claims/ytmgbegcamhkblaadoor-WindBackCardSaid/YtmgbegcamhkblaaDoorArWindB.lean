/- Contracts of the given functions, on data. Conditions stand in each theorem. -/
import Derived.Test.YtmgbegcamhkblaaDoorArWindT
set_option linter.unusedSimpArgs false
set_option linter.unusedVariables false
namespace Go.Ev.Ar
open Go Go.Ev Go.Proofs

/-- Sums over a range. -/
def sumR (f : Nat → Int) : Nat → Int
  | 0 => 0
  | n + 1 => sumR f n + f n
theorem sumR_congr {f g : Nat → Int} : ∀ {n : Nat}, (∀ i, i < n → f i = g i) → sumR f n = sumR g n
  | 0, _ => rfl
  | n + 1, h => by simp only [sumR]; rw [sumR_congr (fun i hi => h i (by omega)), h n (by omega)]
theorem sumR_add (f g : Nat → Int) : ∀ n, sumR (fun i => f i + g i) n = sumR f n + sumR g n
  | 0 => rfl
  | n + 1 => by simp only [sumR, sumR_add f g n]; omega
theorem sumR_neg (f : Nat → Int) : ∀ n, sumR (fun i => -f i) n = -sumR f n
  | 0 => rfl
  | n + 1 => by simp only [sumR, sumR_neg f n]; omega
theorem sumR_front (f : Nat → Int) : ∀ n, sumR f (n + 1) = f 0 + sumR (fun i => f (i + 1)) n
  | 0 => by simp [sumR]
  | n + 1 => by rw [sumR, sumR_front f n]; simp only [sumR]; omega
theorem sumR_rev (f : Nat → Int) : ∀ n, sumR (fun i => f (n - 1 - i)) n = sumR f n
  | 0 => rfl
  | n + 1 => by
    rw [sumR_front]
    rw [show n + 1 - 1 - 0 = n by omega]
    rw [sumR_congr (g := fun i => f (n - 1 - i)) (fun i hi => by rw [show n + 1 - 1 - (i + 1) = n - 1 - i by omega]), sumR_rev f n]
    simp only [sumR]; omega
theorem sumR_next (f : Nat → Int) (n : Nat) : sumR (fun i => f ((i + 1) % n)) n = sumR f n := by
  cases n with
  | zero => rfl
  | succ n =>
    rw [sumR_front f n]
    simp only [sumR]
    rw [Nat.mod_self, sumR_congr (g := fun i => f (i + 1)) (fun i hi => by rw [Nat.mod_eq_of_lt (by omega)])]
    omega
theorem sumR_rot (f : Nat → Int) (n : Nat) : ∀ k, sumR (fun i => f ((i + k) % n)) n = sumR f n
  | 0 => sumR_congr fun i hi => by rw [Nat.add_zero, Nat.mod_eq_of_lt hi]
  | k + 1 => by
    rw [← sumR_rot f n k, ← sumR_next (fun i => f ((i + k) % n)) n]
    refine sumR_congr fun i hi => ?_
    congr 1
    rw [Nat.mod_add_mod]
    congr 1; omega
/-- Turns that are all told. -/
theorem turns_range (T : Nat → Int × Bool) : ∀ n, (∀ i, i < n → (T i).2 = true) → turns ((List.range n).map T) = some (sumR (fun i => (T i).1) n)
  | 0, _ => rfl
  | n + 1, h => by
    rw [List.range_succ, List.map_append, turns_append, turns_range T n (fun i hi => h i (by omega))]
    simp [turns, sumR, h n (by omega)]
theorem turns_bad (T : Nat → Int × Bool) : ∀ n i, i < n → (T i).2 = false → turns ((List.range n).map T) = none
  | 0, i, hi, _ => by omega
  | n + 1, i, hi, h => by
    rw [List.range_succ, List.map_append, turns_append]
    by_cases hin : i < n
    · rw [turns_bad T n i hin h]; rfl
    · obtain rfl : i = n := by omega
      simp [turns, h]
/-- Two ways: told alike, the sums the one. -/
theorem turns_alike {T T' : Nat → Int × Bool} {n : Nat} {g : Int → Int} (h : (∀ i, i < n → (T i).2 = true) ↔ (∀ i, i < n → (T' i).2 = true))
    (hs : (∀ i, i < n → (T i).2 = true) → sumR (fun i => (T' i).1) n = g (sumR (fun i => (T i).1) n)) : turns ((List.range n).map T') = (turns ((List.range n).map T)).map g := by
  by_cases h1 : ∀ i, i < n → (T i).2 = true
  · rw [turns_range T n h1, turns_range T' n (h.1 h1), hs h1]; rfl
  · have h2 : ¬ ∀ i, i < n → (T' i).2 = true := fun h3 => h1 (h.2 h3)
    simp only [Classical.not_forall, Bool.not_eq_true] at h1 h2
    obtain ⟨i, hi, e⟩ := h1
    obtain ⟨j, hj, e'⟩ := h2
    rw [turns_bad T n i hi e, turns_bad T' n j hj e']; rfl

def pt (l : List Cq) (i : Nat) : Cq := l.getD i (0, 0)
theorem number_of (l : List Cq) (g : Nat → Cq) (n : Nat) (hl : l.length = n) (hg : ∀ i, i < n → pt l i = g i) : number l = (match turns ((List.range n).map fun i => turn (g i) (g ((i + 1) % n))) with | some s => (s.tdiv 4, decide (0 < n)) | none => (0, false)) := by
  subst hl
  unfold number ring
  congr 1
  refine congrArg turns (List.map_congr_left fun i hi => ?_)
  have hi := List.mem_range.1 hi
  rw [show l.getD i (0, 0) = pt l i from rfl, show l.getD ((i + 1) % l.length) (0, 0) = pt l ((i + 1) % l.length) from rfl, hg i hi, hg _ (Nat.mod_lt _ (by omega))]

theorem turnQ_swap {x y s : Int} (hx : -1 ≤ x ∧ x ≤ 3) (hy : -1 ≤ y ∧ y ≤ 3) : turnQ y x (-s) = (-(turnQ x y s).1, (turnQ x y s).2) := by
  unfold turnQ
  by_cases h0 : x < 0 ∨ y < 0
  · rw [if_pos h0, if_pos h0.symm]; rfl
  rw [if_neg h0, if_neg (fun h => h0 h.symm)]
  have hd : (y - x + 4) % 4 = 0 ∨ (y - x + 4) % 4 = 1 ∨ (y - x + 4) % 4 = 2 ∨ (y - x + 4) % 4 = 3 := by omega
  rcases hd with hd | hd | hd | hd
  · rw [if_neg (by omega), if_neg (by omega), if_neg (by omega), if_neg (by omega), hd, show (x - y + 4) % 4 = 0 by omega]; rfl
  · rw [if_pos (by omega), if_neg (by omega), if_neg (by omega), hd]
  · rw [if_neg (by omega), if_pos (by omega), if_neg (by omega), if_pos (by omega)]
    refine Prod.ext (by show 2 * -s = -(2 * s); omega) ?_
    exact decide_eq_decide.2 (by omega)
  · rw [if_neg (by omega), if_neg (by omega), if_pos (by omega), show (x - y + 4) % 4 = 1 by omega]; rfl
theorem dsg_neg (q : Dyadic) : dsg (-q) = -dsg q := by
  rcases dsg_cases q with ⟨h, e⟩ | ⟨h, e⟩ | ⟨h, e⟩ <;> rw [e]
  · show dsg (-q) = 1
    exact dsg_one.2 (by grind)
  · show dsg (-q) = 0
    rw [dsg_eq]; grind
  · exact dsg_neg_one.2 (by grind)
theorem turn_swap (a b : Cq) : turn b a = (-(turn a b).1, (turn a b).2) := by
  unfold turn
  rw [cross_swap, dsg_neg]
  exact turnQ_swap (quart_ge a) (quart_ge b)
/-- Backwards. -/
theorem number_back (l k : List Cq) (hl : k.length = l.length) (h : ∀ i, i < l.length → pt k i = pt l (l.length - 1 - i)) : number k = (-(number l).1, (number l).2) := by
  rw [number_of k _ l.length hl h, number_of l _ l.length rfl (fun _ _ => rfl)]
  by_cases h0 : l.length = 0
  · rw [h0]; rfl
  generalize hn : l.length = n at *
  have e : ∀ i, i < n → turn (pt l (n - 1 - i)) (pt l (n - 1 - (i + 1) % n)) = (-(turn (pt l ((n - 1 - i + (n - 1)) % n)) (pt l (((n - 1 - i + (n - 1)) % n + 1) % n))).1, (turn (pt l ((n - 1 - i + (n - 1)) % n)) (pt l (((n - 1 - i + (n - 1)) % n + 1) % n))).2) := by
    intro i hi
    rw [turn_swap (pt l ((n - 1 - i + (n - 1)) % n)) (pt l (((n - 1 - i + (n - 1)) % n + 1) % n)) |>.symm]
    by_cases hin : i + 1 = n
    · rw [hin, Nat.mod_self, show n - 1 - i = 0 by omega, Nat.zero_add, Nat.mod_eq_of_lt (by omega : n - 1 < n), show n - 1 + 1 = n by omega, Nat.mod_self, Nat.sub_zero]
    · have e1 : (i + 1) % n = i + 1 := Nat.mod_eq_of_lt (by omega)
      have e2 : (n - 1 - i + (n - 1)) % n = n - 1 - (i + 1) := by
        rw [show n - 1 - i + (n - 1) = (n - 1 - (i + 1)) + n by omega, Nat.add_mod_right, Nat.mod_eq_of_lt (by omega)]
      rw [e1, e2, Nat.mod_eq_of_lt (by omega : n - 1 - (i + 1) + 1 < n), show n - 1 - (i + 1) + 1 = n - 1 - i by omega]
  have ht := turns_alike (n := n) (T := fun i => turn (pt l i) (pt l ((i + 1) % n))) (T' := fun i => turn (pt l (n - 1 - i)) (pt l (n - 1 - (i + 1) % n))) (g := fun s => -s) ?_ ?_
  · rw [ht]
    cases turns ((List.range n).map fun i => turn (pt l i) (pt l ((i + 1) % n))) with
    | none => rfl
    | some s => exact Prod.ext (Int.neg_tdiv s 4) rfl
  · constructor
    · intro h1 i hi
      show (turn (pt l (n - 1 - i)) (pt l (n - 1 - (i + 1) % n))).2 = true
      rw [e i hi]; exact h1 _ (Nat.mod_lt _ (by omega))
    · intro h1 i hi
      -- the pair i is told as the pair that comes to it backwards
      have hj : (2 * n - 2 - i) % n < n := Nat.mod_lt _ (by omega)
      have := h1 _ hj
      have e2 := e _ hj
      have e3 : (n - 1 - (2 * n - 2 - i) % n + (n - 1)) % n = i := by
        by_cases hin : i + 1 = n
        · rw [show 2 * n - 2 - i = n - 1 by omega, Nat.mod_eq_of_lt (show n - 1 < n by omega), show n - 1 - (n - 1) + (n - 1) = n - 1 by omega, Nat.mod_eq_of_lt (show n - 1 < n by omega)]; omega
        · rw [show 2 * n - 2 - i = (n - 2 - i) + n by omega, Nat.add_mod_right, Nat.mod_eq_of_lt (show n - 2 - i < n by omega), show n - 1 - (n - 2 - i) + (n - 1) = i + n by omega, Nat.add_mod_right, Nat.mod_eq_of_lt hi]
      rw [e3] at e2
      change (turn (pt l (n - 1 - (2 * n - 2 - i) % n)) (pt l (n - 1 - ((2 * n - 2 - i) % n + 1) % n))).2 = true at this
      rw [e2] at this; exact this
  · intro _
    show sumR _ n = -sumR _ n
    rw [← sumR_rot (fun i => (turn (pt l i) (pt l ((i + 1) % n))).1) n (n - 1), ← sumR_rev (fun i => (turn (pt l ((i + (n - 1)) % n)) (pt l (((i + (n - 1)) % n + 1) % n))).1) n, ← sumR_neg]
    refine sumR_congr fun i hi => ?_
    show (turn (pt l (n - 1 - i)) (pt l (n - 1 - (i + 1) % n))).1 = _
    rw [e i hi]
/-- Begun elsewhere. -/
theorem number_on (l k : List Cq) (d : Nat) (hl : k.length = l.length) (h : ∀ i, i < l.length → pt k i = pt l ((i + d) % l.length)) : number k = number l := by
  rw [number_of k _ l.length hl h, number_of l _ l.length rfl (fun _ _ => rfl)]
  generalize hn : l.length = n at *
  have e : ∀ i, turn (pt l ((i + d) % n)) (pt l (((i + 1) % n + d) % n)) = turn (pt l ((i + d) % n)) (pt l (((i + d) % n + 1) % n)) := by
    intro i
    rw [Nat.mod_add_mod, Nat.mod_add_mod]
    congr 3; omega
  have ht := turns_alike (n := n) (T := fun i => turn (pt l i) (pt l ((i + 1) % n))) (T' := fun i => turn (pt l ((i + d) % n)) (pt l (((i + 1) % n + d) % n))) (g := id) ?_ ?_
  · rw [ht, Option.map_id_fun]; rfl
  · constructor
    · intro h1 i hi
      show (turn _ _).2 = true
      rw [e i]; exact h1 _ (Nat.mod_lt _ (by omega))
    · intro h1 i hi
      have hj : (i + (n - d % n)) % n < n := Nat.mod_lt _ (by omega)
      have := h1 _ hj
      change (turn (pt l (((i + (n - d % n)) % n + d) % n)) (pt l ((((i + (n - d % n)) % n + 1) % n + d) % n))).2 = true at this
      rw [e] at this
      have e3 : ((i + (n - d % n)) % n + d) % n = i := by
        have h4 := Nat.mod_lt d (by omega : n > 0)
        have h5 := Nat.div_add_mod d n
        have h6 : i + (n - d % n) + d = i + n * (d / n + 1) := by
          rw [Nat.mul_add, Nat.mul_one]
          generalize n * (d / n) = X at *
          generalize d % n = r at *
          omega
        rw [Nat.mod_add_mod, h6, Nat.add_mul_mod_self_left, Nat.mod_eq_of_lt hi]
      rwa [e3] at this
  · intro _
    show _ = sumR _ n
    rw [← sumR_rot (fun i => (turn (pt l i) (pt l ((i + 1) % n))).1) n d]
    refine sumR_congr fun i hi => ?_
    show (turn (pt l ((i + d) % n)) (pt l (((i + 1) % n + d) % n))).1 = _
    rw [e i]

def turnD (D s : Int) : Int × Bool := if D = 3 then (-1, true) else if D = 2 then (2 * s, decide (s ≠ 0)) else (D, true)
theorem turnQ_eq {x y s : Int} (hx : 0 ≤ x) (hy : 0 ≤ y) : turnQ x y s = turnD ((y - x + 4) % 4) s := by
  unfold turnQ
  rw [if_neg (by omega)]; rfl
theorem turnD_shift {D c d s : Int} (hD : D = 0 ∨ D = 1 ∨ D = 2 ∨ D = 3) (hc : c = 0 ∨ c = 1) (hd : d = 0 ∨ d = 1) (hs : s = -1 ∨ s = 0 ∨ s = 1) (h1 : D = 1 → s = 1) (h3 : D = 3 → s = -1)
    (h1' : (D + d - c + 4) % 4 = 1 → s = 1) (h3' : (D + d - c + 4) % 4 = 3 → s = -1) : turnD ((D + d - c + 4) % 4) s = ((turnD D s).1 + d - c, (turnD D s).2) := by
  rcases hD with rfl | rfl | rfl | rfl <;> rcases hc with rfl | rfl <;> rcases hd with rfl | rfl <;> rcases hs with rfl | rfl | rfl <;> first | decide | (exfalso; revert h1; decide) | (exfalso; revert h3; decide) | (exfalso; revert h1'; decide) | (exfalso; revert h3'; decide)
theorem turnQ_shift {x y w c d s : Int} (hx : 0 ≤ x ∧ x ≤ 3) (hy : 0 ≤ y ∧ y ≤ 3) (hc : c = 0 ∨ c = 1) (hd : d = 0 ∨ d = 1) (hs : -1 ≤ s ∧ s ≤ 1) (h1 : (y - x + 4) % 4 = 1 → s = 1) (h3 : (y - x + 4) % 4 = 3 → s = -1)
    (h1' : ((y + w + d) % 4 - (x + w + c) % 4 + 4) % 4 = 1 → s = 1) (h3' : ((y + w + d) % 4 - (x + w + c) % 4 + 4) % 4 = 3 → s = -1) : turnQ ((x + w + c) % 4) ((y + w + d) % 4) s = ((turnQ x y s).1 + d - c, (turnQ x y s).2) := by
  have e : ((y + w + d) % 4 - (x + w + c) % 4 + 4) % 4 = ((y - x + 4) % 4 + d - c + 4) % 4 := by omega
  rw [e] at h1' h3'
  rw [turnQ_eq (by omega) (by omega), turnQ_eq hx.1 hy.1, e]
  exact turnD_shift (by omega) hc hd (by omega) h1 h3 h1' h3'
theorem cmul_rot (a z : Cq) : cmul (-a.2, a.1) z = (-(cmul a z).2, (cmul a z).1) := by refine Prod.ext ?_ ?_ <;> simp only [cmul] <;> grind
theorem cmul_comm (a z : Cq) : cmul a z = cmul z a := by refine Prod.ext ?_ ?_ <;> simp only [cmul] <;> grind
theorem quart_ne {z : Cq} (h : 0 ≤ quart z) : ¬ (z.1 = 0 ∧ z.2 = 0) := by
  rintro ⟨h1, h2⟩
  unfold quart at h; rw [h1, h2] at h
  revert h; decide
def Qm (a z : Cq) : Prop := quart (cmul a z) = (quart a + quart z) % 4 ∨ quart (cmul a z) = (quart a + quart z + 1) % 4
theorem Qm.zero {a z : Cq} (ha : quart a = 0) (hz : quart z = 0) : Qm a z := by
  unfold Qm
  rw [ha, hz]
  obtain ⟨p, q⟩ := a
  obtain ⟨r, s⟩ := z
  have h1 := (quart_sgn (p, q)).1 ha
  have h2 := (quart_sgn (r, s)).1 hz
  dsimp only at h1 h2
  have m1 : 0 < p * r := mul_pos h1.1 h2.1
  have m2 : 0 ≤ q * s := mul_nn h1.2 h2.2
  have m3 : 0 ≤ p * s := mul_nn (by grind) h2.2
  have m4 : 0 ≤ q * r := mul_nn h1.2 (by grind)
  by_cases hq : q = 0
  · left
    have m5 : q * s = 0 := by rw [hq]; grind
    show quart (p * r - q * s, p * s + q * r) = 0
    unfold quart
    exact if_pos ⟨by show 0 < p * r - q * s; grind, by show 0 ≤ p * s + q * r; grind⟩
  · have m5 : 0 < q * r := mul_pos (by grind) h2.1
    by_cases hr : 0 < p * r - q * s
    · left
      show quart (p * r - q * s, p * s + q * r) = 0
      unfold quart
      exact if_pos ⟨hr, by show 0 ≤ p * s + q * r; grind⟩
    · right
      show quart (p * r - q * s, p * s + q * r) = 1
      unfold quart
      rw [if_neg (fun h => hr h.1)]
      exact if_pos ⟨by show 0 < p * s + q * r; grind, by show p * r - q * s ≤ 0; grind⟩
theorem Qm.rot {a z : Cq} (ha : 0 ≤ quart a) (h0 : 0 ≤ quart (cmul a z)) (h : Qm a z) : Qm (-a.2, a.1) z := by
  unfold Qm at h ⊢
  have e1 := (quart_rot a.1 a.2 (quart_ne ha)).2.1
  have e2 := (quart_rot (cmul a z).1 (cmul a z).2 (quart_ne h0)).2.1
  rw [cmul_rot, e1, e2]
  rw [show ((a.1, a.2) : Cq) = a from rfl, show (((cmul a z).1, (cmul a z).2) : Cq) = cmul a z from rfl]
  omega
theorem Qm.ge {a z : Cq} (h : Qm a z) : 0 ≤ quart (cmul a z) := by unfold Qm at h; omega
theorem unrot {a : Cq} {k : Int} (h : quart a = k + 1) (hk : 0 ≤ k) : ∃ b : Cq, quart b = k ∧ a = (-b.2, b.1) := by
  refine ⟨(a.2, -a.1), ?_, by show a = (- -a.1, a.2); rw [show - -a.1 = a.1 by grind]⟩
  have h1 := quart_rot a.2 (-a.1) (by
    rintro ⟨h1, h2⟩
    exact quart_ne (z := a) (by omega) ⟨by grind, h1⟩)
  rw [show - -a.1 = a.1 by grind, show ((a.1, a.2) : Cq) = a from rfl, h] at h1
  have h2 := (quart_ge a).2
  have h3 := (quart_ge (a.2, -a.1)).2
  omega
theorem Qm.left {z : Cq} (hz : quart z = 0) : ∀ (k : Nat) (a : Cq), quart a = k → Qm a z
  | 0, a, h => Qm.zero h hz
  | k + 1, a, h => by
    obtain ⟨b, hb, rfl⟩ := unrot (k := k) (by rw [h]; omega) (by omega)
    have := Qm.left hz k b hb
    exact Qm.rot (by omega) this.ge this
theorem Qm.symm {a z : Cq} (h : Qm a z) : Qm z a := by unfold Qm at h ⊢; rw [cmul_comm, Int.add_comm]; exact h
theorem Qm.all {a : Cq} (ha : 0 ≤ quart a) : ∀ (k : Nat) (z : Cq), quart z = k → Qm a z
  | 0, z, h => Qm.left h (quart a).toNat a (by omega)
  | k + 1, z, h => by
    obtain ⟨b, hb, rfl⟩ := unrot (k := k) (by rw [h]; omega) (by omega)
    have := (Qm.all ha k b hb).symm
    exact (Qm.rot (by omega) this.ge this).symm
theorem cmul_zero_l {a z : Cq} (h : quart a < 0) : quart (cmul a z) = -1 := by
  obtain ⟨h1, h2⟩ := quart_neg h
  unfold cmul; rw [h1, h2]
  rw [show (0 : Dyadic) * z.1 - 0 * z.2 = 0 by grind, show (0 : Dyadic) * z.2 + 0 * z.1 = 0 by grind]; decide
/-- By how much a point's quarter goes on, beyond the quarter it is multiplied by. -/
def carryQ (z a : Cq) : Int := (quart (cmul a z) - quart a - quart z) % 4
theorem cross_cmul (a b z : Cq) : cross (cmul a z) (cmul b z) = (z.1 * z.1 + z.2 * z.2) * cross a b := by unfold cross cmul; dsimp only; grind
theorem cross_sgn {a b z : Cq} (hz : 0 ≤ quart z) : dsg (cross (cmul a z) (cmul b z)) = dsg (cross a b) := by
  rw [cross_cmul, dsg_mul, dsg_one.2 (sq_pos (quart_ne hz)), Int.one_mul]
theorem turn_cmul {a b z : Cq} (hz : 0 ≤ quart z) (ha : 0 ≤ quart a) (hb : 0 ≤ quart b) : turn (cmul a z) (cmul b z) = ((turn a b).1 + carryQ z b - carryQ z a, (turn a b).2) := by
  have h1 := Qm.all ha (quart z).toNat z (by omega)
  have h2 := Qm.all hb (quart z).toNat z (by omega)
  have ha3 := (quart_ge a).2
  have hb3 := (quart_ge b).2
  have hz3 := (quart_ge z).2
  unfold Qm at h1 h2
  have c1 : carryQ z a = 0 ∨ carryQ z a = 1 := by unfold carryQ; omega
  have c2 : carryQ z b = 0 ∨ carryQ z b = 1 := by unfold carryQ; omega
  have q1 : quart (cmul a z) = (quart a + quart z + carryQ z a) % 4 := by unfold carryQ; omega
  have q2 : quart (cmul b z) = (quart b + quart z + carryQ z b) % 4 := by unfold carryQ; omega
  have n1 : (quart b - quart a + 4) % 4 = 1 → dsg (cross a b) = 1 := fun h => dsg_one.2 (cross_next ha hb h)
  have n2 : (quart b - quart a + 4) % 4 = 3 → dsg (cross a b) = -1 := fun h => dsg_neg_one.2 (cross_prev ha hb h)
  have n3 : (quart (cmul b z) - quart (cmul a z) + 4) % 4 = 1 → dsg (cross a b) = 1 := fun h => by rw [← cross_sgn hz]; exact dsg_one.2 (cross_next (by omega) (by omega) h)
  have n4 : (quart (cmul b z) - quart (cmul a z) + 4) % 4 = 3 → dsg (cross a b) = -1 := fun h => by rw [← cross_sgn hz]; exact dsg_neg_one.2 (cross_prev (by omega) (by omega) h)
  have hs : -1 ≤ dsg (cross a b) ∧ dsg (cross a b) ≤ 1 := by rcases dsg_cases (cross a b) with h | h | h <;> omega
  unfold turn
  rw [cross_sgn hz]
  rw [q1, q2] at n3 n4 ⊢
  exact turnQ_shift ⟨ha, ha3⟩ ⟨hb, hb3⟩ c1 c2 hs n1 n2 n3 n4
theorem turn_bad_l {a b : Cq} (h : quart a < 0) : turn a b = (0, false) := by unfold turn turnQ; rw [if_pos (.inl h)]
theorem turn_bad_r {a b : Cq} (h : quart b < 0) : turn a b = (0, false) := by unfold turn turnQ; rw [if_pos (.inr h)]
/-- Multiplied. -/
theorem number_times (l k : List Cq) (z : Cq) (hz : 0 ≤ quart z) (hl : k.length = l.length) (h : ∀ i, i < l.length → pt k i = cmul (pt l i) z) : number k = number l := by
  rw [number_of k _ l.length hl h, number_of l _ l.length rfl (fun _ _ => rfl)]
  generalize hn : l.length = n at *
  have e : ∀ i, i < n → (turn (pt l i) (pt l ((i + 1) % n))).2 = true → turn (cmul (pt l i) z) (cmul (pt l ((i + 1) % n)) z) = ((turn (pt l i) (pt l ((i + 1) % n))).1 + carryQ z (pt l ((i + 1) % n)) - carryQ z (pt l i), true) := by
    intro i hi ht
    by_cases h1 : quart (pt l i) < 0
    · rw [turn_bad_l h1] at ht; cases ht
    by_cases h2 : quart (pt l ((i + 1) % n)) < 0
    · rw [turn_bad_r h2] at ht; cases ht
    rw [turn_cmul hz (by omega) (by omega), ht]
  have e' : ∀ i, i < n → (turn (cmul (pt l i) z) (cmul (pt l ((i + 1) % n)) z)).2 = true → (turn (pt l i) (pt l ((i + 1) % n))).2 = true := by
    intro i hi ht
    by_cases h1 : quart (pt l i) < 0
    · rw [turn_bad_l (by rw [cmul_zero_l h1]; decide)] at ht; cases ht
    by_cases h2 : quart (pt l ((i + 1) % n)) < 0
    · rw [turn_bad_r (by rw [cmul_zero_l h2]; decide)] at ht; cases ht
    rwa [turn_cmul hz (by omega) (by omega)] at ht
  have ht := turns_alike (n := n) (T := fun i => turn (pt l i) (pt l ((i + 1) % n))) (T' := fun i => turn (cmul (pt l i) z) (cmul (pt l ((i + 1) % n)) z)) (g := id) ?_ ?_
  · rw [ht, Option.map_id_fun]; rfl
  · exact ⟨fun h1 i hi => by show (turn _ _).2 = true; rw [e i hi (h1 i hi)], fun h1 i hi => e' i hi (h1 i hi)⟩
  · intro h1
    show _ = sumR _ n
    rw [sumR_congr (g := fun i => (turn (pt l i) (pt l ((i + 1) % n))).1 + (carryQ z (pt l ((i + 1) % n)) + -carryQ z (pt l i))) (fun i hi => by rw [e i hi (h1 i hi)]; show _ + _ - _ = _ + (_ + -_); omega)]
    rw [sumR_add, sumR_add, sumR_next (fun i => carryQ z (pt l i)), sumR_neg]; omega
theorem number_null (l : List Cq) (h0 : l.length ≠ 0) (h : ∀ i, i < l.length → quart (pt l i) < 0) : number l = (0, false) := by
  rw [number_of l _ l.length rfl (fun _ _ => rfl), turns_bad _ _ 0 (by omega) (by rw [turn_bad_l (h 0 (by omega))])]
end Go.Ev.Ar
