/- Contracts of the given functions, on data. Conditions stand in each theorem. -/
import Derived.Test.YtmgbegcamhkblaaDoorArWindQ
set_option linter.unusedSimpArgs false
set_option linter.unusedVariables false
namespace Go.Ev.Ar
open Go Go.Ev Go.Proofs

theorem mul_nn {p q : Dyadic} (hp : 0 ≤ p) (hq : 0 ≤ q) : 0 ≤ p * q := by
  rw [← dsg_ge, dsg_mul]
  have h1 := dsg_ge.2 hp
  have h2 := dsg_ge.2 hq
  exact Int.mul_nonneg h1 h2
theorem pos_of {p q r s : Dyadic} (hp : 0 < p) (hr : 0 < r) (hq : 0 ≤ q) (hs : 0 ≤ s) : 0 < p * r + q * s := by
  have h1 := mul_pos hp hr
  have h2 := mul_nn hq hs
  grind
theorem quart_sgn (z : Cq) : (quart z = 0 → 0 < z.1 ∧ 0 ≤ z.2) ∧ (quart z = 1 → 0 < z.2 ∧ 0 ≤ -z.1) ∧ (quart z = 2 → 0 < -z.1 ∧ 0 ≤ -z.2) ∧ (quart z = 3 → 0 < -z.2 ∧ 0 ≤ z.1) := by
  unfold quart; grind
theorem cross_next {a b : Cq} (ha : 0 ≤ quart a) (hb : 0 ≤ quart b) (h : (quart b - quart a + 4) % 4 = 1) : 0 < cross a b := by
  obtain ⟨a0, a1, a2, a3⟩ := quart_sgn a
  have hb3 := (quart_ge b).2
  obtain ⟨b0, b1, b2, b3⟩ := quart_sgn b
  unfold cross
  rcases quart_cases a with h1 | h1 | h1 | h1 | h1
  · omega
  · have x := a0 h1
    have y := b1 (by omega)
    have := pos_of x.1 y.1 x.2 y.2; grind
  · have x := a1 h1
    have y := b2 (by omega)
    have := pos_of x.1 y.1 x.2 y.2; grind
  · have x := a2 h1
    have y := b3 (by omega)
    have := pos_of x.1 y.1 x.2 y.2; grind
  · have x := a3 h1
    have y := b0 (by omega)
    have := pos_of x.1 y.1 x.2 y.2; grind
theorem cross_swap (a b : Cq) : cross b a = -cross a b := by unfold cross; grind
theorem cross_prev {a b : Cq} (ha : 0 ≤ quart a) (hb : 0 ≤ quart b) (h : (quart b - quart a + 4) % 4 = 3) : cross a b < 0 := by
  have h1 := cross_next (a := b) (b := a) hb ha (by omega)
  rw [cross_swap] at h1; grind
theorem cross_mid1 (a b c : Cq) : cross a c * b.1 = cross a b * c.1 + cross b c * a.1 := by unfold cross; grind
theorem cross_mid2 (a b c : Cq) : cross a c * b.2 = cross a b * c.2 + cross b c * a.2 := by unfold cross; grind
/-- Side by side in one quarter: what turns on turns on. -/
theorem mul_pos_cancel {p q : Dyadic} (hq : 0 < q) (h : 0 < p * q) : 0 < p := by
  rw [← dsg_gt] at h ⊢
  rw [dsg_mul] at h
  have h1 := dsg_gt.2 hq
  rcases dsg_cases q with h2 | h2 | h2 <;> rcases dsg_cases p with h3 | h3 | h3 <;> rw [h2.2, h3.2] at h <;> omega
theorem cross_same {a b c : Cq} (hab : quart a = quart b) (hbc : quart b = quart c) (h0 : 0 ≤ quart a) (h1 : 0 < cross a b) (h2 : 0 < cross b c) : 0 < cross a c := by
  obtain ⟨a0, a1, a2, a3⟩ := quart_sgn a
  have hb3 := (quart_ge b).2
  obtain ⟨b0, b1, b2, b3⟩ := quart_sgn b
  obtain ⟨c0, c1, c2, c3⟩ := quart_sgn c
  have m1 := cross_mid1 a b c
  have m2 := cross_mid2 a b c
  rcases quart_cases a with h | h | h | h | h
  · omega
  · have x := (a0 h).1; have y := (b0 (by omega)).1; have z := (c0 (by omega)).1
    have p1 := mul_pos h1 z; have p2 := mul_pos h2 x
    exact mul_pos_cancel y (by grind)
  · have x := (a1 h).1; have y := (b1 (by omega)).1; have z := (c1 (by omega)).1
    have p1 := mul_pos h1 z; have p2 := mul_pos h2 x
    exact mul_pos_cancel y (by grind)
  · have x := (a2 h).1; have y := (b2 (by omega)).1; have z := (c2 (by omega)).1
    have p1 := mul_pos h1 z; have p2 := mul_pos h2 x
    exact mul_pos_cancel y (by grind)
  · have x := (a3 h).1; have y := (b3 (by omega)).1; have z := (c3 (by omega)).1
    have p1 := mul_pos h1 z; have p2 := mul_pos h2 x
    exact mul_pos_cancel y (by grind)
/-- Over the opposite quarter and back into the own: still ahead. -/
theorem cross_over {a b c : Cq} (hab : (quart b - quart a + 4) % 4 = 2) (hac : quart a = quart c) (h0 : 0 ≤ quart a) (hb : 0 ≤ quart b) (h1 : 0 < cross a b) (h2 : 0 < cross b c) : 0 < cross c a := by
  obtain ⟨a0, a1, a2, a3⟩ := quart_sgn a
  have hb3 := (quart_ge b).2
  obtain ⟨b0, b1, b2, b3⟩ := quart_sgn b
  obtain ⟨c0, c1, c2, c3⟩ := quart_sgn c
  have m1 := cross_mid1 a b c
  have m2 := cross_mid2 a b c
  rw [cross_swap]
  rcases quart_cases a with h | h | h | h | h
  · omega
  · have x := (a0 h).1; have y := (b2 (by omega)).1; have z := (c0 (by omega)).1
    have p1 := mul_pos h1 z; have p2 := mul_pos h2 x
    exact mul_pos_cancel y (by grind)
  · have x := (a1 h).1; have y := (b3 (by omega)).1; have z := (c1 (by omega)).1
    have p1 := mul_pos h1 z; have p2 := mul_pos h2 x
    exact mul_pos_cancel y (by grind)
  · have x := (a2 h).1; have y := (b0 (by omega)).1; have z := (c2 (by omega)).1
    have p1 := mul_pos h1 z; have p2 := mul_pos h2 x
    exact mul_pos_cancel y (by grind)
  · have x := (a3 h).1; have y := (b1 (by omega)).1; have z := (c3 (by omega)).1
    have p1 := mul_pos h1 z; have p2 := mul_pos h2 x
    exact mul_pos_cancel y (by grind)
theorem cross_same' {a b c : Cq} (hab : quart a = quart b) (hbc : quart b = quart c) (h0 : 0 ≤ quart a) (h1 : cross a b < 0) (h2 : cross b c < 0) : cross a c < 0 := by
  have := cross_same (a := c) (b := b) (c := a) hbc.symm hab.symm (by omega) (by rw [cross_swap]; grind) (by rw [cross_swap]; grind)
  rw [cross_swap] at this; grind
theorem cross_over' {a b c : Cq} (hab : (quart b - quart a + 4) % 4 = 2) (hac : quart a = quart c) (h0 : 0 ≤ quart a) (hb : 0 ≤ quart b) (h1 : cross a b < 0) (h2 : cross b c < 0) : cross c a < 0 := by
  have hb3 := (quart_ge b).2
  have ha3 := (quart_ge a).2
  have := cross_over (a := c) (b := b) (c := a) (by omega) hac.symm (by omega) hb (by rw [cross_swap]; grind) (by rw [cross_swap]; grind)
  rw [cross_swap] at this; grind
theorem quart_neg {z : Cq} (h : quart z < 0) : z.1 = 0 ∧ z.2 = 0 := by
  by_cases hz : z.1 = 0 ∧ z.2 = 0
  · exact hz
  · have := (quart_rot z.1 z.2 hz).1
    rw [show ((z.1, z.2) : Cq) = z from rfl] at this; omega
/-- A turn, told by quarters and by the side. -/
theorem turn_cases (a b : Cq) : ((turn a b).2 = false ∧ dsg (cross a b) = 0) ∨ ((turn a b).2 = true ∧ 0 ≤ quart a ∧ 0 ≤ quart b ∧
    (((quart b - quart a + 4) % 4 = 0 ∧ (turn a b).1 = 0) ∨ ((quart b - quart a + 4) % 4 = 1 ∧ (turn a b).1 = 1 ∧ 0 < cross a b) ∨ ((quart b - quart a + 4) % 4 = 3 ∧ (turn a b).1 = -1 ∧ cross a b < 0) ∨
      ((quart b - quart a + 4) % 4 = 2 ∧ (turn a b).1 = 2 ∧ 0 < cross a b) ∨ ((quart b - quart a + 4) % 4 = 2 ∧ (turn a b).1 = -2 ∧ cross a b < 0))) := by
  have ha := quart_ge a
  have hb := quart_ge b
  by_cases h0 : quart a < 0 ∨ quart b < 0
  · refine .inl ⟨by unfold turn turnQ; rw [if_pos h0], ?_⟩
    rw [dsg_eq]; unfold cross
    rcases h0 with h | h
    · obtain ⟨h1, h2⟩ := quart_neg h
      rw [h1, h2]; grind
    · obtain ⟨h1, h2⟩ := quart_neg h
      rw [h1, h2]; grind
  by_cases h3 : (quart b - quart a + 4) % 4 = 3
  · have hT : turn a b = (-1, true) := by unfold turn turnQ; rw [if_neg h0, if_pos h3]
    rw [hT]
    exact .inr ⟨rfl, by omega, by omega, .inr (.inr (.inl ⟨h3, rfl, cross_prev (by omega) (by omega) h3⟩))⟩
  by_cases h2 : (quart b - quart a + 4) % 4 = 2
  · have hT : turn a b = (2 * dsg (cross a b), decide (dsg (cross a b) ≠ 0)) := by unfold turn turnQ; rw [if_neg h0, if_neg h3, if_pos h2]
    rw [hT]
    rcases dsg_cases (cross a b) with ⟨g, e⟩ | ⟨g, e⟩ | ⟨g, e⟩ <;> rw [e]
    · exact .inr ⟨rfl, by omega, by omega, .inr (.inr (.inr (.inr ⟨h2, rfl, g⟩)))⟩
    · exact .inl ⟨rfl, rfl⟩
    · exact .inr ⟨rfl, by omega, by omega, .inr (.inr (.inr (.inl ⟨h2, rfl, g⟩)))⟩
  · have hT : turn a b = ((quart b - quart a + 4) % 4, true) := by unfold turn turnQ; rw [if_neg h0, if_neg h3, if_neg h2]
    rw [hT]
    by_cases h1 : (quart b - quart a + 4) % 4 = 1
    · exact .inr ⟨rfl, by omega, by omega, .inr (.inl ⟨h1, h1, cross_next (by omega) (by omega) h1⟩)⟩
    · exact .inr ⟨rfl, by omega, by omega, .inl ⟨by omega, by show (quart b - quart a + 4) % 4 = 0; omega⟩⟩
/-- The number of a triangle, by its three sides. -/
theorem number_three (a b c : Cq) : number [a, b, c] = (if (turn a b).2 && (turn b c).2 && (turn c a).2 then (((turn a b).1 + (turn b c).1 + (turn c a).1).tdiv 4, true) else (0, false)) := by
  have hr : ring [a, b, c] = [turn a b, turn b c, turn c a] := by unfold ring; rw [show List.range [a, b, c].length = [0, 1, 2] from rfl]; simp
  unfold number
  rw [hr]
  obtain ⟨m, s⟩ := turn a b
  obtain ⟨n, t⟩ := turn b c
  obtain ⟨k, u⟩ := turn c a
  cases s <;> cases t <;> cases u <;> simp [turns, Int.add_assoc]
/-- The same in whole numbers: quarters x and y, sign s, turn t, told or not. -/
structure TurnI (x y s t : Int) (k : Bool) : Prop where
  no : k = false → s = 0
  ok : k = true → 0 ≤ x ∧ x ≤ 3 ∧ 0 ≤ y ∧ y ≤ 3 ∧ (((y - x + 4) % 4 = 0 ∧ t = 0) ∨ ((y - x + 4) % 4 = 1 ∧ t = 1 ∧ s = 1) ∨ ((y - x + 4) % 4 = 3 ∧ t = -1 ∧ s = -1) ∨ ((y - x + 4) % 4 = 2 ∧ t = 2 ∧ s = 1) ∨ ((y - x + 4) % 4 = 2 ∧ t = -2 ∧ s = -1))
theorem dsg_one {q : Dyadic} : dsg q = 1 ↔ 0 < q := by
  rcases dsg_cases q with h | h | h <;> rw [h.2] <;> constructor <;> intro g <;> first | omega | grind
theorem dsg_neg_one {q : Dyadic} : dsg q = -1 ↔ q < 0 := by
  rcases dsg_cases q with h | h | h <;> rw [h.2] <;> constructor <;> intro g <;> first | omega | grind
theorem turnI (a b : Cq) : TurnI (quart a) (quart b) (dsg (cross a b)) (turn a b).1 (turn a b).2 := by
  have ha := (quart_ge a).2
  have hb := (quart_ge b).2
  rcases turn_cases a b with h | ⟨h, h1, h2, h3⟩
  · exact ⟨fun _ => h.2, fun g => by rw [h.1] at g; exact absurd g (by decide)⟩
  · refine ⟨fun g => by rw [h] at g; exact absurd g (by decide), fun _ => ⟨h1, ha, h2, hb, ?_⟩⟩
    rcases h3 with h3 | h3 | h3 | h3 | h3
    · exact .inl h3
    · exact .inr (.inl ⟨h3.1, h3.2.1, dsg_one.2 h3.2.2⟩)
    · exact .inr (.inr (.inl ⟨h3.1, h3.2.1, dsg_neg_one.2 h3.2.2⟩))
    · exact .inr (.inr (.inr (.inl ⟨h3.1, h3.2.1, dsg_one.2 h3.2.2⟩)))
    · exact .inr (.inr (.inr (.inr ⟨h3.1, h3.2.1, dsg_neg_one.2 h3.2.2⟩)))
theorem same_i (a b c : Cq) (h : quart a = quart b ∧ quart b = quart c ∧ 0 ≤ quart a) : ¬ (dsg (cross a b) = 1 ∧ dsg (cross b c) = 1 ∧ dsg (cross c a) = 1) ∧ ¬ (dsg (cross a b) = -1 ∧ dsg (cross b c) = -1 ∧ dsg (cross c a) = -1) := by
  rw [dsg_one, dsg_one, dsg_one, dsg_neg_one, dsg_neg_one, dsg_neg_one]
  refine ⟨fun g => ?_, fun g => ?_⟩
  · have := cross_same h.1 h.2.1 h.2.2 g.1 g.2.1
    have := g.2.2
    rw [cross_swap] at this; grind
  · have := cross_same' h.1 h.2.1 h.2.2 g.1 g.2.1
    have := g.2.2
    rw [cross_swap] at this; grind
theorem over_i (a b c : Cq) (h : (quart b - quart a + 4) % 4 = 2 ∧ quart a = quart c ∧ 0 ≤ quart a ∧ 0 ≤ quart b) : (dsg (cross a b) = 1 → dsg (cross b c) = 1 → dsg (cross c a) = 1) ∧ (dsg (cross a b) = -1 → dsg (cross b c) = -1 → dsg (cross c a) = -1) := by
  rw [dsg_one, dsg_one, dsg_one, dsg_neg_one, dsg_neg_one, dsg_neg_one]
  exact ⟨cross_over h.1 h.2.1 h.2.2.1 h.2.2.2, cross_over' h.1 h.2.1 h.2.2.1 h.2.2.2⟩
set_option maxHeartbeats 8000000 in
theorem tri_sum {x y z p q r i j k : Int} (h1 : 0 ≤ x ∧ x ≤ 3 ∧ 0 ≤ y ∧ y ≤ 3 ∧ (((y - x + 4) % 4 = 0 ∧ i = 0) ∨ ((y - x + 4) % 4 = 1 ∧ i = 1 ∧ p = 1) ∨ ((y - x + 4) % 4 = 3 ∧ i = -1 ∧ p = -1) ∨ ((y - x + 4) % 4 = 2 ∧ i = 2 ∧ p = 1) ∨ ((y - x + 4) % 4 = 2 ∧ i = -2 ∧ p = -1)))
    (h2 : 0 ≤ y ∧ y ≤ 3 ∧ 0 ≤ z ∧ z ≤ 3 ∧ (((z - y + 4) % 4 = 0 ∧ j = 0) ∨ ((z - y + 4) % 4 = 1 ∧ j = 1 ∧ q = 1) ∨ ((z - y + 4) % 4 = 3 ∧ j = -1 ∧ q = -1) ∨ ((z - y + 4) % 4 = 2 ∧ j = 2 ∧ q = 1) ∨ ((z - y + 4) % 4 = 2 ∧ j = -2 ∧ q = -1)))
    (h3 : 0 ≤ z ∧ z ≤ 3 ∧ 0 ≤ x ∧ x ≤ 3 ∧ (((x - z + 4) % 4 = 0 ∧ k = 0) ∨ ((x - z + 4) % 4 = 1 ∧ k = 1 ∧ r = 1) ∨ ((x - z + 4) % 4 = 3 ∧ k = -1 ∧ r = -1) ∨ ((x - z + 4) % 4 = 2 ∧ k = 2 ∧ r = 1) ∨ ((x - z + 4) % 4 = 2 ∧ k = -2 ∧ r = -1)))
    (g1 : x = y → y = z → ¬ (p = 1 ∧ q = 1 ∧ r = 1) ∧ ¬ (p = -1 ∧ q = -1 ∧ r = -1))
    (o1 : (y - x + 4) % 4 = 2 → x = z → (p = 1 → q = 1 → r = 1) ∧ (p = -1 → q = -1 → r = -1))
    (o2 : (z - y + 4) % 4 = 2 → y = x → (q = 1 → r = 1 → p = 1) ∧ (q = -1 → r = -1 → p = -1))
    (o3 : (x - z + 4) % 4 = 2 → z = y → (r = 1 → p = 1 → q = 1) ∧ (r = -1 → p = -1 → q = -1)) :
    (i + j + k = 4 ∧ p = 1 ∧ q = 1 ∧ r = 1) ∨ (i + j + k = -4 ∧ p = -1 ∧ q = -1 ∧ r = -1) ∨ (i + j + k = 0 ∧ ¬ (p = 1 ∧ q = 1 ∧ r = 1) ∧ ¬ (p = -1 ∧ q = -1 ∧ r = -1)) := by
  obtain ⟨x0, x1, y0, y1, h1⟩ := h1
  obtain ⟨_, _, z0, z1, h2⟩ := h2
  obtain ⟨_, _, _, _, h3⟩ := h3
  rcases h1 with h1 | h1 | h1 | h1 | h1 <;> rcases h2 with h2 | h2 | h2 | h2 | h2 <;> rcases h3 with h3 | h3 | h3 | h3 | h3 <;> omega
theorem triangle (a b c : Cq) : (number [a, b, c] = (1, true) ∧ dsg (cross a b) = 1 ∧ dsg (cross b c) = 1 ∧ dsg (cross c a) = 1) ∨ (number [a, b, c] = (-1, true) ∧ dsg (cross a b) = -1 ∧ dsg (cross b c) = -1 ∧ dsg (cross c a) = -1) ∨
    (number [a, b, c] = (0, true) ∧ ¬ (dsg (cross a b) = 1 ∧ dsg (cross b c) = 1 ∧ dsg (cross c a) = 1) ∧ ¬ (dsg (cross a b) = -1 ∧ dsg (cross b c) = -1 ∧ dsg (cross c a) = -1)) ∨
    (number [a, b, c] = (0, false) ∧ (dsg (cross a b) = 0 ∨ dsg (cross b c) = 0 ∨ dsg (cross c a) = 0)) := by
  rw [number_three]
  have t1 := turnI a b
  have t2 := turnI b c
  have t3 := turnI c a
  cases k1 : (turn a b).2
  · exact .inr (.inr (.inr ⟨rfl, .inl (t1.no k1)⟩))
  cases k2 : (turn b c).2
  · exact .inr (.inr (.inr ⟨rfl, .inr (.inl (t2.no k2))⟩))
  cases k3 : (turn c a).2
  · exact .inr (.inr (.inr ⟨rfl, .inr (.inr (t3.no k3))⟩))
  have u1 := t1.ok k1
  have u2 := t2.ok k2
  have u3 := t3.ok k3
  have h := tri_sum u1 u2 u3 (fun e1 e2 => same_i a b c ⟨e1, e2, u1.1⟩) (fun e1 e2 => over_i a b c ⟨e1, e2, u1.1, u2.1⟩) (fun e1 e2 => over_i b c a ⟨e1, e2, u2.1, u3.1⟩) (fun e1 e2 => over_i c a b ⟨e1, e2, u3.1, u1.1⟩)
  rcases h with ⟨e, h⟩ | ⟨e, h⟩ | ⟨e, h⟩
  · exact .inl ⟨by rw [e]; rfl, h⟩
  · exact .inr (.inl ⟨by rw [e]; rfl, h⟩)
  · exact .inr (.inr (.inl ⟨by rw [e]; rfl, h⟩))
end Go.Ev.Ar
