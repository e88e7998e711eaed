/- Contracts of the given functions, on data. Conditions stand in each theorem. -/
import Derived.Test.YtlhhckpjcglinaaDoorGArWind
import Derived.Test.YtlhhckpjcglinaaDoorGEvZ
import Derived.Test.YtlhhckpjcglinaaDoorGEvU
set_option linter.unusedSimpArgs false
set_option linter.unusedVariables false
namespace Go.Ev.Ar
open Go Go.Ev Go.Proofs

def cmul (a b : Cq) : Cq := (a.1 * b.1 - a.2 * b.2, a.1 * b.2 + a.2 * b.1)
theorem turn_is {x y : D} {a b : Cq} {n : Int} {t : Bool} (hx : CxR x a) (hy : CxR y b) (ha : Hc 200000 a) (hb : Hc 200000 b) (h : turn a b = (n, t)) : Sim Tryd.prog G0 true 32 [x, y] (.tup [.int .i64 n, .bool t]) := by
  have s := turn_sim hx hy ha hb
  rwa [h] at s
theorem quarter_is {x : D} {z : Cq} {n : Int} (hx : CxR x z) (h : quart z = n) : Sim Tryd.prog G0 true 33 [x] (.int .i64 n) := h ▸ quarter_sim hx
theorem side_is {x y : D} {a b : Cq} {n : Int} (hx : CxR x a) (hy : CxR y b) (ha : Hc 200000 a) (hb : Hc 200000 b) (h : dsg (cross a b) = n) : Sim Tryd.prog G0 true 34 [x, y] (.int .i64 n) := h ▸ side_sim hx hy ha hb
theorem quart_rot (a b : Dyadic) (h : ¬ (a = 0 ∧ b = 0)) : 0 ≤ quart (a, b) ∧ quart (-b, a) = (quart (a, b) + 1) % 4 ∧ quart (-a, -b) = (quart (a, b) + 2) % 4 := by
  unfold quart
  dsimp only
  rcases dsg_cases a with ⟨ha, _⟩ | ⟨ha, _⟩ | ⟨ha, _⟩ <;> rcases dsg_cases b with ⟨hb, _⟩ | ⟨hb, _⟩ | ⟨hb, _⟩ <;> grind
theorem mul_pos {p q : Dyadic} (hp : 0 < p) (hq : 0 < q) : 0 < p * q := by
  rw [← dsg_gt, dsg_mul]
  have h1 := dsg_gt.2 hp
  have h2 := dsg_gt.2 hq
  exact Int.mul_pos h1 h2
theorem sq_pos {a b : Dyadic} (h : ¬ (a = 0 ∧ b = 0)) : 0 < a * a + b * b := by
  rcases dsg_cases a with ⟨ha, _⟩ | ⟨ha, _⟩ | ⟨ha, _⟩ <;> rcases dsg_cases b with ⟨hb, _⟩ | ⟨hb, _⟩ | ⟨hb, _⟩
  all_goals
    first
    | have m1 : 0 < a * a := mul_pos ha ha
    | have m1 : 0 < a * a := by have := mul_pos (p := -a) (q := -a) (by grind) (by grind); grind
    | have m1 : a * a = 0 := by rw [ha]; rfl
    first
    | have m2 : 0 < b * b := mul_pos hb hb
    | have m2 : 0 < b * b := by have := mul_pos (p := -b) (q := -b) (by grind) (by grind); grind
    | have m2 : b * b = 0 := by rw [hb]; rfl
    grind
theorem turn_next (a b : Dyadic) (h : ¬ (a = 0 ∧ b = 0)) : turn (a, b) (-b, a) = (1, true) ∧ turn (a, b) (-a, -b) = (0, false) ∧ dsg (cross (a, b) (-b, a)) = 1 := by
  obtain ⟨q0, q1, q2⟩ := quart_rot a b h
  have q3 := (quart_ge (a, b)).2
  have c1 : dsg (cross (a, b) (-b, a)) = 1 := by
    have h1 : cross (a, b) (-b, a) = a * a + b * b := by show a * a - b * -b = _; grind
    rw [h1]
    have h2 := dsg_gt.2 (sq_pos h)
    rcases dsg_cases (a * a + b * b) with h3 | h3 | h3 <;> omega
  have c2 : dsg (cross (a, b) (-a, -b)) = 0 := by
    rw [dsg_eq]; show a * -b - b * -a = 0; grind
  refine ⟨?_, ?_, c1⟩
  · unfold turn turnQ
    rw [c1, q1, if_neg (by omega), if_neg (by omega), if_neg (by omega)]
    rw [show ((quart (a, b) + 1) % 4 - quart (a, b) + 4) % 4 = 1 by omega]
  · unfold turn turnQ
    rw [c2, q2, if_neg (by omega), if_neg (by omega), if_pos (by omega)]; rfl
theorem cross_times (a b d : Dyadic) : dsg (cross (a, b) (a * d, b * d)) = 0 := by
  rw [dsg_eq]; show a * (b * d) - b * (a * d) = 0; grind
end Go.Ev.Ar

namespace Go.Ev.Ar
open Go Go.Ev Go.Proofs

theorem mul_nn {p q : Dyadic} (hp : 0 ≤ p) (hq : 0 ≤ q) : 0 ≤ p * q := by
  rw [← dsg_ge, dsg_mul]
  have h1 := dsg_ge.2 hp
  have h2 := dsg_ge.2 hq
  exact Int.mul_nonneg h1 h2
theorem pos_of {p q r s : Dyadic} (hp : 0 < p) (hr : 0 < r) (hq : 0 ≤ q) (hs : 0 ≤ s) : 0 < p * r + q * s := by
  have h1 := mul_pos hp hr
  have h2 := mul_nn hq hs
  grind
theorem quart_sgn (z : Cq) : (quart z = 0 → 0 < z.1 ∧ 0 ≤ z.2) ∧ (quart z = 1 → 0 < z.2 ∧ 0 ≤ -z.1) ∧ (quart z = 2 → 0 < -z.1 ∧ 0 ≤ -z.2) ∧ (quart z = 3 → 0 < -z.2 ∧ 0 ≤ z.1) := by
  unfold quart; grind
theorem cross_next {a b : Cq} (ha : 0 ≤ quart a) (hb : 0 ≤ quart b) (h : (quart b - quart a + 4) % 4 = 1) : 0 < cross a b := by
  obtain ⟨a0, a1, a2, a3⟩ := quart_sgn a
  have hb3 := (quart_ge b).2
  obtain ⟨b0, b1, b2, b3⟩ := quart_sgn b
  unfold cross
  rcases quart_cases a with h1 | h1 | h1 | h1 | h1
  · omega
  · have x := a0 h1
    have y := b1 (by omega)
    have := pos_of x.1 y.1 x.2 y.2; grind
  · have x := a1 h1
    have y := b2 (by omega)
    have := pos_of x.1 y.1 x.2 y.2; grind
  · have x := a2 h1
    have y := b3 (by omega)
    have := pos_of x.1 y.1 x.2 y.2; grind
  · have x := a3 h1
    have y := b0 (by omega)
    have := pos_of x.1 y.1 x.2 y.2; grind
theorem cross_swap (a b : Cq) : cross b a = -cross a b := by unfold cross; grind
theorem cross_prev {a b : Cq} (ha : 0 ≤ quart a) (hb : 0 ≤ quart b) (h : (quart b - quart a + 4) % 4 = 3) : cross a b < 0 := by
  have h1 := cross_next (a := b) (b := a) hb ha (by omega)
  rw [cross_swap] at h1; grind
theorem cross_mid1 (a b c : Cq) : cross a c * b.1 = cross a b * c.1 + cross b c * a.1 := by unfold cross; grind
theorem cross_mid2 (a b c : Cq) : cross a c * b.2 = cross a b * c.2 + cross b c * a.2 := by unfold cross; grind
/-- Side by side in one quarter: what turns on turns on. -/
theorem mul_pos_cancel {p q : Dyadic} (hq : 0 < q) (h : 0 < p * q) : 0 < p := by
  rw [← dsg_gt] at h ⊢
  rw [dsg_mul] at h
  have h1 := dsg_gt.2 hq
  rcases dsg_cases q with h2 | h2 | h2 <;> rcases dsg_cases p with h3 | h3 | h3 <;> rw [h2.2, h3.2] at h <;> omega
theorem cross_same {a b c : Cq} (hab : quart a = quart b) (hbc : quart b = quart c) (h0 : 0 ≤ quart a) (h1 : 0 < cross a b) (h2 : 0 < cross b c) : 0 < cross a c := by
  obtain ⟨a0, a1, a2, a3⟩ := quart_sgn a
  have hb3 := (quart_ge b).2
  obtain ⟨b0, b1, b2, b3⟩ := quart_sgn b
  obtain ⟨c0, c1, c2, c3⟩ := quart_sgn c
  have m1 := cross_mid1 a b c
  have m2 := cross_mid2 a b c
  rcases quart_cases a with h | h | h | h | h
  · omega
  · have x := (a0 h).1; have y := (b0 (by omega)).1; have z := (c0 (by omega)).1
    have p1 := mul_pos h1 z; have p2 := mul_pos h2 x
    exact mul_pos_cancel y (by grind)
  · have x := (a1 h).1; have y := (b1 (by omega)).1; have z := (c1 (by omega)).1
    have p1 := mul_pos h1 z; have p2 := mul_pos h2 x
    exact mul_pos_cancel y (by grind)
  · have x := (a2 h).1; have y := (b2 (by omega)).1; have z := (c2 (by omega)).1
    have p1 := mul_pos h1 z; have p2 := mul_pos h2 x
    exact mul_pos_cancel y (by grind)
  · have x := (a3 h).1; have y := (b3 (by omega)).1; have z := (c3 (by omega)).1
    have p1 := mul_pos h1 z; have p2 := mul_pos h2 x
    exact mul_pos_cancel y (by grind)
/-- Over the opposite quarter and back into the own: still ahead. -/
theorem cross_over {a b c : Cq} (hab : (quart b - quart a + 4) % 4 = 2) (hac : quart a = quart c) (h0 : 0 ≤ quart a) (hb : 0 ≤ quart b) (h1 : 0 < cross a b) (h2 : 0 < cross b c) : 0 < cross c a := by
  obtain ⟨a0, a1, a2, a3⟩ := quart_sgn a
  have hb3 := (quart_ge b).2
  obtain ⟨b0, b1, b2, b3⟩ := quart_sgn b
  obtain ⟨c0, c1, c2, c3⟩ := quart_sgn c
  have m1 := cross_mid1 a b c
  have m2 := cross_mid2 a b c
  rw [cross_swap]
  rcases quart_cases a with h | h | h | h | h
  · omega
  · have x := (a0 h).1; have y := (b2 (by omega)).1; have z := (c0 (by omega)).1
    have p1 := mul_pos h1 z; have p2 := mul_pos h2 x
    exact mul_pos_cancel y (by grind)
  · have x := (a1 h).1; have y := (b3 (by omega)).1; have z := (c1 (by omega)).1
    have p1 := mul_pos h1 z; have p2 := mul_pos h2 x
    exact mul_pos_cancel y (by grind)
  · have x := (a2 h).1; have y := (b0 (by omega)).1; have z := (c2 (by omega)).1
    have p1 := mul_pos h1 z; have p2 := mul_pos h2 x
    exact mul_pos_cancel y (by grind)
  · have x := (a3 h).1; have y := (b1 (by omega)).1; have z := (c3 (by omega)).1
    have p1 := mul_pos h1 z; have p2 := mul_pos h2 x
    exact mul_pos_cancel y (by grind)
theorem cross_same' {a b c : Cq} (hab : quart a = quart b) (hbc : quart b = quart c) (h0 : 0 ≤ quart a) (h1 : cross a b < 0) (h2 : cross b c < 0) : cross a c < 0 := by
  have := cross_same (a := c) (b := b) (c := a) hbc.symm hab.symm (by omega) (by rw [cross_swap]; grind) (by rw [cross_swap]; grind)
  rw [cross_swap] at this; grind
theorem cross_over' {a b c : Cq} (hab : (quart b - quart a + 4) % 4 = 2) (hac : quart a = quart c) (h0 : 0 ≤ quart a) (hb : 0 ≤ quart b) (h1 : cross a b < 0) (h2 : cross b c < 0) : cross c a < 0 := by
  have hb3 := (quart_ge b).2
  have ha3 := (quart_ge a).2
  have := cross_over (a := c) (b := b) (c := a) (by omega) hac.symm (by omega) hb (by rw [cross_swap]; grind) (by rw [cross_swap]; grind)
  rw [cross_swap] at this; grind
theorem quart_neg {z : Cq} (h : quart z < 0) : z.1 = 0 ∧ z.2 = 0 := by
  by_cases hz : z.1 = 0 ∧ z.2 = 0
  · exact hz
  · have := (quart_rot z.1 z.2 hz).1
    rw [show ((z.1, z.2) : Cq) = z from rfl] at this; omega
/-- A turn, told by quarters and by the side. -/
theorem turn_cases (a b : Cq) : ((turn a b).2 = false ∧ dsg (cross a b) = 0) ∨ ((turn a b).2 = true ∧ 0 ≤ quart a ∧ 0 ≤ quart b ∧
    (((quart b - quart a + 4) % 4 = 0 ∧ (turn a b).1 = 0) ∨ ((quart b - quart a + 4) % 4 = 1 ∧ (turn a b).1 = 1 ∧ 0 < cross a b) ∨ ((quart b - quart a + 4) % 4 = 3 ∧ (turn a b).1 = -1 ∧ cross a b < 0) ∨
      ((quart b - quart a + 4) % 4 = 2 ∧ (turn a b).1 = 2 ∧ 0 < cross a b) ∨ ((quart b - quart a + 4) % 4 = 2 ∧ (turn a b).1 = -2 ∧ cross a b < 0))) := by
  have ha := quart_ge a
  have hb := quart_ge b
  by_cases h0 : quart a < 0 ∨ quart b < 0
  · refine .inl ⟨by unfold turn turnQ; rw [if_pos h0], ?_⟩
    rw [dsg_eq]; unfold cross
    rcases h0 with h | h
    · obtain ⟨h1, h2⟩ := quart_neg h
      rw [h1, h2]; grind
    · obtain ⟨h1, h2⟩ := quart_neg h
      rw [h1, h2]; grind
  by_cases h3 : (quart b - quart a + 4) % 4 = 3
  · have hT : turn a b = (-1, true) := by unfold turn turnQ; rw [if_neg h0, if_pos h3]
    rw [hT]
    exact .inr ⟨rfl, by omega, by omega, .inr (.inr (.inl ⟨h3, rfl, cross_prev (by omega) (by omega) h3⟩))⟩
  by_cases h2 : (quart b - quart a + 4) % 4 = 2
  · have hT : turn a b = (2 * dsg (cross a b), decide (dsg (cross a b) ≠ 0)) := by unfold turn turnQ; rw [if_neg h0, if_neg h3, if_pos h2]
    rw [hT]
    rcases dsg_cases (cross a b) with ⟨g, e⟩ | ⟨g, e⟩ | ⟨g, e⟩ <;> rw [e]
    · exact .inr ⟨rfl, by omega, by omega, .inr (.inr (.inr (.inr ⟨h2, rfl, g⟩)))⟩
    · exact .inl ⟨rfl, rfl⟩
    · exact .inr ⟨rfl, by omega, by omega, .inr (.inr (.inr (.inl ⟨h2, rfl, g⟩)))⟩
  · have hT : turn a b = ((quart b - quart a + 4) % 4, true) := by unfold turn turnQ; rw [if_neg h0, if_neg h3, if_neg h2]
    rw [hT]
    by_cases h1 : (quart b - quart a + 4) % 4 = 1
    · exact .inr ⟨rfl, by omega, by omega, .inr (.inl ⟨h1, h1, cross_next (by omega) (by omega) h1⟩)⟩
    · exact .inr ⟨rfl, by omega, by omega, .inl ⟨by omega, by show (quart b - quart a + 4) % 4 = 0; omega⟩⟩
/-- The number of a triangle, by its three sides. -/
theorem number_three (a b c : Cq) : number [a, b, c] = (if (turn a b).2 && (turn b c).2 && (turn c a).2 then (((turn a b).1 + (turn b c).1 + (turn c a).1).tdiv 4, true) else (0, false)) := by
  have hr : ring [a, b, c] = [turn a b, turn b c, turn c a] := by unfold ring; rw [show List.range [a, b, c].length = [0, 1, 2] from rfl]; simp
  unfold number
  rw [hr]
  obtain ⟨m, s⟩ := turn a b
  obtain ⟨n, t⟩ := turn b c
  obtain ⟨k, u⟩ := turn c a
  cases s <;> cases t <;> cases u <;> simp [turns, Int.add_assoc]
/-- The same in whole numbers: quarters x and y, sign s, turn t, told or not. -/
structure TurnI (x y s t : Int) (k : Bool) : Prop where
  no : k = false → s = 0
  ok : k = true → 0 ≤ x ∧ x ≤ 3 ∧ 0 ≤ y ∧ y ≤ 3 ∧ (((y - x + 4) % 4 = 0 ∧ t = 0) ∨ ((y - x + 4) % 4 = 1 ∧ t = 1 ∧ s = 1) ∨ ((y - x + 4) % 4 = 3 ∧ t = -1 ∧ s = -1) ∨ ((y - x + 4) % 4 = 2 ∧ t = 2 ∧ s = 1) ∨ ((y - x + 4) % 4 = 2 ∧ t = -2 ∧ s = -1))
theorem dsg_one {q : Dyadic} : dsg q = 1 ↔ 0 < q := by
  rcases dsg_cases q with h | h | h <;> rw [h.2] <;> constructor <;> intro g <;> first | omega | grind
theorem dsg_neg_one {q : Dyadic} : dsg q = -1 ↔ q < 0 := by
  rcases dsg_cases q with h | h | h <;> rw [h.2] <;> constructor <;> intro g <;> first | omega | grind
theorem turnI (a b : Cq) : TurnI (quart a) (quart b) (dsg (cross a b)) (turn a b).1 (turn a b).2 := by
  have ha := (quart_ge a).2
  have hb := (quart_ge b).2
  rcases turn_cases a b with h | ⟨h, h1, h2, h3⟩
  · exact ⟨fun _ => h.2, fun g => by rw [h.1] at g; exact absurd g (by decide)⟩
  · refine ⟨fun g => by rw [h] at g; exact absurd g (by decide), fun _ => ⟨h1, ha, h2, hb, ?_⟩⟩
    rcases h3 with h3 | h3 | h3 | h3 | h3
    · exact .inl h3
    · exact .inr (.inl ⟨h3.1, h3.2.1, dsg_one.2 h3.2.2⟩)
    · exact .inr (.inr (.inl ⟨h3.1, h3.2.1, dsg_neg_one.2 h3.2.2⟩))
    · exact .inr (.inr (.inr (.inl ⟨h3.1, h3.2.1, dsg_one.2 h3.2.2⟩)))
    · exact .inr (.inr (.inr (.inr ⟨h3.1, h3.2.1, dsg_neg_one.2 h3.2.2⟩)))
theorem same_i (a b c : Cq) (h : quart a = quart b ∧ quart b = quart c ∧ 0 ≤ quart a) : ¬ (dsg (cross a b) = 1 ∧ dsg (cross b c) = 1 ∧ dsg (cross c a) = 1) ∧ ¬ (dsg (cross a b) = -1 ∧ dsg (cross b c) = -1 ∧ dsg (cross c a) = -1) := by
  rw [dsg_one, dsg_one, dsg_one, dsg_neg_one, dsg_neg_one, dsg_neg_one]
  refine ⟨fun g => ?_, fun g => ?_⟩
  · have := cross_same h.1 h.2.1 h.2.2 g.1 g.2.1
    have := g.2.2
    rw [cross_swap] at this; grind
  · have := cross_same' h.1 h.2.1 h.2.2 g.1 g.2.1
    have := g.2.2
    rw [cross_swap] at this; grind
theorem over_i (a b c : Cq) (h : (quart b - quart a + 4) % 4 = 2 ∧ quart a = quart c ∧ 0 ≤ quart a ∧ 0 ≤ quart b) : (dsg (cross a b) = 1 → dsg (cross b c) = 1 → dsg (cross c a) = 1) ∧ (dsg (cross a b) = -1 → dsg (cross b c) = -1 → dsg (cross c a) = -1) := by
  rw [dsg_one, dsg_one, dsg_one, dsg_neg_one, dsg_neg_one, dsg_neg_one]
  exact ⟨cross_over h.1 h.2.1 h.2.2.1 h.2.2.2, cross_over' h.1 h.2.1 h.2.2.1 h.2.2.2⟩
set_option maxHeartbeats 8000000 in
theorem tri_sum {x y z p q r i j k : Int} (h1 : 0 ≤ x ∧ x ≤ 3 ∧ 0 ≤ y ∧ y ≤ 3 ∧ (((y - x + 4) % 4 = 0 ∧ i = 0) ∨ ((y - x + 4) % 4 = 1 ∧ i = 1 ∧ p = 1) ∨ ((y - x + 4) % 4 = 3 ∧ i = -1 ∧ p = -1) ∨ ((y - x + 4) % 4 = 2 ∧ i = 2 ∧ p = 1) ∨ ((y - x + 4) % 4 = 2 ∧ i = -2 ∧ p = -1)))
    (h2 : 0 ≤ y ∧ y ≤ 3 ∧ 0 ≤ z ∧ z ≤ 3 ∧ (((z - y + 4) % 4 = 0 ∧ j = 0) ∨ ((z - y + 4) % 4 = 1 ∧ j = 1 ∧ q = 1) ∨ ((z - y + 4) % 4 = 3 ∧ j = -1 ∧ q = -1) ∨ ((z - y + 4) % 4 = 2 ∧ j = 2 ∧ q = 1) ∨ ((z - y + 4) % 4 = 2 ∧ j = -2 ∧ q = -1)))
    (h3 : 0 ≤ z ∧ z ≤ 3 ∧ 0 ≤ x ∧ x ≤ 3 ∧ (((x - z + 4) % 4 = 0 ∧ k = 0) ∨ ((x - z + 4) % 4 = 1 ∧ k = 1 ∧ r = 1) ∨ ((x - z + 4) % 4 = 3 ∧ k = -1 ∧ r = -1) ∨ ((x - z + 4) % 4 = 2 ∧ k = 2 ∧ r = 1) ∨ ((x - z + 4) % 4 = 2 ∧ k = -2 ∧ r = -1)))
    (g1 : x = y → y = z → ¬ (p = 1 ∧ q = 1 ∧ r = 1) ∧ ¬ (p = -1 ∧ q = -1 ∧ r = -1))
    (o1 : (y - x + 4) % 4 = 2 → x = z → (p = 1 → q = 1 → r = 1) ∧ (p = -1 → q = -1 → r = -1))
    (o2 : (z - y + 4) % 4 = 2 → y = x → (q = 1 → r = 1 → p = 1) ∧ (q = -1 → r = -1 → p = -1))
    (o3 : (x - z + 4) % 4 = 2 → z = y → (r = 1 → p = 1 → q = 1) ∧ (r = -1 → p = -1 → q = -1)) :
    (i + j + k = 4 ∧ p = 1 ∧ q = 1 ∧ r = 1) ∨ (i + j + k = -4 ∧ p = -1 ∧ q = -1 ∧ r = -1) ∨ (i + j + k = 0 ∧ ¬ (p = 1 ∧ q = 1 ∧ r = 1) ∧ ¬ (p = -1 ∧ q = -1 ∧ r = -1)) := by
  obtain ⟨x0, x1, y0, y1, h1⟩ := h1
  obtain ⟨_, _, z0, z1, h2⟩ := h2
  obtain ⟨_, _, _, _, h3⟩ := h3
  rcases h1 with h1 | h1 | h1 | h1 | h1 <;> rcases h2 with h2 | h2 | h2 | h2 | h2 <;> rcases h3 with h3 | h3 | h3 | h3 | h3 <;> omega
theorem triangle (a b c : Cq) : (number [a, b, c] = (1, true) ∧ dsg (cross a b) = 1 ∧ dsg (cross b c) = 1 ∧ dsg (cross c a) = 1) ∨ (number [a, b, c] = (-1, true) ∧ dsg (cross a b) = -1 ∧ dsg (cross b c) = -1 ∧ dsg (cross c a) = -1) ∨
    (number [a, b, c] = (0, true) ∧ ¬ (dsg (cross a b) = 1 ∧ dsg (cross b c) = 1 ∧ dsg (cross c a) = 1) ∧ ¬ (dsg (cross a b) = -1 ∧ dsg (cross b c) = -1 ∧ dsg (cross c a) = -1)) ∨
    (number [a, b, c] = (0, false) ∧ (dsg (cross a b) = 0 ∨ dsg (cross b c) = 0 ∨ dsg (cross c a) = 0)) := by
  rw [number_three]
  have t1 := turnI a b
  have t2 := turnI b c
  have t3 := turnI c a
  cases k1 : (turn a b).2
  · exact .inr (.inr (.inr ⟨rfl, .inl (t1.no k1)⟩))
  cases k2 : (turn b c).2
  · exact .inr (.inr (.inr ⟨rfl, .inr (.inl (t2.no k2))⟩))
  cases k3 : (turn c a).2
  · exact .inr (.inr (.inr ⟨rfl, .inr (.inr (t3.no k3))⟩))
  have u1 := t1.ok k1
  have u2 := t2.ok k2
  have u3 := t3.ok k3
  have h := tri_sum u1 u2 u3 (fun e1 e2 => same_i a b c ⟨e1, e2, u1.1⟩) (fun e1 e2 => over_i a b c ⟨e1, e2, u1.1, u2.1⟩) (fun e1 e2 => over_i b c a ⟨e1, e2, u2.1, u3.1⟩) (fun e1 e2 => over_i c a b ⟨e1, e2, u3.1, u1.1⟩)
  rcases h with ⟨e, h⟩ | ⟨e, h⟩ | ⟨e, h⟩
  · exact .inl ⟨by rw [e]; rfl, h⟩
  · exact .inr (.inl ⟨by rw [e]; rfl, h⟩)
  · exact .inr (.inr (.inl ⟨by rw [e]; rfl, h⟩))
end Go.Ev.Ar

namespace Go.Ev.Ar
open Go Go.Ev Go.Proofs

/-- Sums over a range. -/
def sumR (f : Nat → Int) : Nat → Int
  | 0 => 0
  | n + 1 => sumR f n + f n
theorem sumR_congr {f g : Nat → Int} : ∀ {n : Nat}, (∀ i, i < n → f i = g i) → sumR f n = sumR g n
  | 0, _ => rfl
  | n + 1, h => by simp only [sumR]; rw [sumR_congr (fun i hi => h i (by omega)), h n (by omega)]
theorem sumR_add (f g : Nat → Int) : ∀ n, sumR (fun i => f i + g i) n = sumR f n + sumR g n
  | 0 => rfl
  | n + 1 => by simp only [sumR, sumR_add f g n]; omega
theorem sumR_neg (f : Nat → Int) : ∀ n, sumR (fun i => -f i) n = -sumR f n
  | 0 => rfl
  | n + 1 => by simp only [sumR, sumR_neg f n]; omega
theorem sumR_front (f : Nat → Int) : ∀ n, sumR f (n + 1) = f 0 + sumR (fun i => f (i + 1)) n
  | 0 => by simp [sumR]
  | n + 1 => by rw [sumR, sumR_front f n]; simp only [sumR]; omega
theorem sumR_rev (f : Nat → Int) : ∀ n, sumR (fun i => f (n - 1 - i)) n = sumR f n
  | 0 => rfl
  | n + 1 => by
    rw [sumR_front]
    rw [show n + 1 - 1 - 0 = n by omega]
    rw [sumR_congr (g := fun i => f (n - 1 - i)) (fun i hi => by rw [show n + 1 - 1 - (i + 1) = n - 1 - i by omega]), sumR_rev f n]
    simp only [sumR]; omega
theorem sumR_next (f : Nat → Int) (n : Nat) : sumR (fun i => f ((i + 1) % n)) n = sumR f n := by
  cases n with
  | zero => rfl
  | succ n =>
    rw [sumR_front f n]
    simp only [sumR]
    rw [Nat.mod_self, sumR_congr (g := fun i => f (i + 1)) (fun i hi => by rw [Nat.mod_eq_of_lt (by omega)])]
    omega
theorem sumR_rot (f : Nat → Int) (n : Nat) : ∀ k, sumR (fun i => f ((i + k) % n)) n = sumR f n
  | 0 => sumR_congr fun i hi => by rw [Nat.add_zero, Nat.mod_eq_of_lt hi]
  | k + 1 => by
    rw [← sumR_rot f n k, ← sumR_next (fun i => f ((i + k) % n)) n]
    refine sumR_congr fun i hi => ?_
    congr 1
    rw [Nat.mod_add_mod]
    congr 1; omega
/-- Turns that are all told. -/
theorem turns_range (T : Nat → Int × Bool) : ∀ n, (∀ i, i < n → (T i).2 = true) → turns ((List.range n).map T) = some (sumR (fun i => (T i).1) n)
  | 0, _ => rfl
  | n + 1, h => by
    rw [List.range_succ, List.map_append, turns_append, turns_range T n (fun i hi => h i (by omega))]
    simp [turns, sumR, h n (by omega)]
theorem turns_bad (T : Nat → Int × Bool) : ∀ n i, i < n → (T i).2 = false → turns ((List.range n).map T) = none
  | 0, i, hi, _ => by omega
  | n + 1, i, hi, h => by
    rw [List.range_succ, List.map_append, turns_append]
    by_cases hin : i < n
    · rw [turns_bad T n i hin h]; rfl
    · obtain rfl : i = n := by omega
      simp [turns, h]
/-- Two ways: told alike, the sums the one. -/
theorem turns_alike {T T' : Nat → Int × Bool} {n : Nat} {g : Int → Int} (h : (∀ i, i < n → (T i).2 = true) ↔ (∀ i, i < n → (T' i).2 = true))
    (hs : (∀ i, i < n → (T i).2 = true) → sumR (fun i => (T' i).1) n = g (sumR (fun i => (T i).1) n)) : turns ((List.range n).map T') = (turns ((List.range n).map T)).map g := by
  by_cases h1 : ∀ i, i < n → (T i).2 = true
  · rw [turns_range T n h1, turns_range T' n (h.1 h1), hs h1]; rfl
  · have h2 : ¬ ∀ i, i < n → (T' i).2 = true := fun h3 => h1 (h.2 h3)
    simp only [Classical.not_forall, Bool.not_eq_true] at h1 h2
    obtain ⟨i, hi, e⟩ := h1
    obtain ⟨j, hj, e'⟩ := h2
    rw [turns_bad T n i hi e, turns_bad T' n j hj e']; rfl

def pt (l : List Cq) (i : Nat) : Cq := l.getD i (0, 0)
theorem number_of (l : List Cq) (g : Nat → Cq) (n : Nat) (hl : l.length = n) (hg : ∀ i, i < n → pt l i = g i) : number l = (match turns ((List.range n).map fun i => turn (g i) (g ((i + 1) % n))) with | some s => (s.tdiv 4, decide (0 < n)) | none => (0, false)) := by
  subst hl
  unfold number ring
  congr 1
  refine congrArg turns (List.map_congr_left fun i hi => ?_)
  have hi := List.mem_range.1 hi
  rw [show l.getD i (0, 0) = pt l i from rfl, show l.getD ((i + 1) % l.length) (0, 0) = pt l ((i + 1) % l.length) from rfl, hg i hi, hg _ (Nat.mod_lt _ (by omega))]

theorem turnQ_swap {x y s : Int} (hx : -1 ≤ x ∧ x ≤ 3) (hy : -1 ≤ y ∧ y ≤ 3) : turnQ y x (-s) = (-(turnQ x y s).1, (turnQ x y s).2) := by
  unfold turnQ
  by_cases h0 : x < 0 ∨ y < 0
  · rw [if_pos h0, if_pos h0.symm]; rfl
  rw [if_neg h0, if_neg (fun h => h0 h.symm)]
  have hd : (y - x + 4) % 4 = 0 ∨ (y - x + 4) % 4 = 1 ∨ (y - x + 4) % 4 = 2 ∨ (y - x + 4) % 4 = 3 := by omega
  rcases hd with hd | hd | hd | hd
  · rw [if_neg (by omega), if_neg (by omega), if_neg (by omega), if_neg (by omega), hd, show (x - y + 4) % 4 = 0 by omega]; rfl
  · rw [if_pos (by omega), if_neg (by omega), if_neg (by omega), hd]
  · rw [if_neg (by omega), if_pos (by omega), if_neg (by omega), if_pos (by omega)]
    refine Prod.ext (by show 2 * -s = -(2 * s); omega) ?_
    exact decide_eq_decide.2 (by omega)
  · rw [if_neg (by omega), if_neg (by omega), if_pos (by omega), show (x - y + 4) % 4 = 1 by omega]; rfl
theorem dsg_neg (q : Dyadic) : dsg (-q) = -dsg q := by
  rcases dsg_cases q with ⟨h, e⟩ | ⟨h, e⟩ | ⟨h, e⟩ <;> rw [e]
  · show dsg (-q) = 1
    exact dsg_one.2 (by grind)
  · show dsg (-q) = 0
    rw [dsg_eq]; grind
  · exact dsg_neg_one.2 (by grind)
theorem turn_swap (a b : Cq) : turn b a = (-(turn a b).1, (turn a b).2) := by
  unfold turn
  rw [cross_swap, dsg_neg]
  exact turnQ_swap (quart_ge a) (quart_ge b)
/-- Backwards. -/
theorem number_back (l k : List Cq) (hl : k.length = l.length) (h : ∀ i, i < l.length → pt k i = pt l (l.length - 1 - i)) : number k = (-(number l).1, (number l).2) := by
  rw [number_of k _ l.length hl h, number_of l _ l.length rfl (fun _ _ => rfl)]
  by_cases h0 : l.length = 0
  · rw [h0]; rfl
  generalize hn : l.length = n at *
  have e : ∀ i, i < n → turn (pt l (n - 1 - i)) (pt l (n - 1 - (i + 1) % n)) = (-(turn (pt l ((n - 1 - i + (n - 1)) % n)) (pt l (((n - 1 - i + (n - 1)) % n + 1) % n))).1, (turn (pt l ((n - 1 - i + (n - 1)) % n)) (pt l (((n - 1 - i + (n - 1)) % n + 1) % n))).2) := by
    intro i hi
    rw [turn_swap (pt l ((n - 1 - i + (n - 1)) % n)) (pt l (((n - 1 - i + (n - 1)) % n + 1) % n)) |>.symm]
    by_cases hin : i + 1 = n
    · rw [hin, Nat.mod_self, show n - 1 - i = 0 by omega, Nat.zero_add, Nat.mod_eq_of_lt (by omega : n - 1 < n), show n - 1 + 1 = n by omega, Nat.mod_self, Nat.sub_zero]
    · have e1 : (i + 1) % n = i + 1 := Nat.mod_eq_of_lt (by omega)
      have e2 : (n - 1 - i + (n - 1)) % n = n - 1 - (i + 1) := by
        rw [show n - 1 - i + (n - 1) = (n - 1 - (i + 1)) + n by omega, Nat.add_mod_right, Nat.mod_eq_of_lt (by omega)]
      rw [e1, e2, Nat.mod_eq_of_lt (by omega : n - 1 - (i + 1) + 1 < n), show n - 1 - (i + 1) + 1 = n - 1 - i by omega]
  have ht := turns_alike (n := n) (T := fun i => turn (pt l i) (pt l ((i + 1) % n))) (T' := fun i => turn (pt l (n - 1 - i)) (pt l (n - 1 - (i + 1) % n))) (g := fun s => -s) ?_ ?_
  · rw [ht]
    cases turns ((List.range n).map fun i => turn (pt l i) (pt l ((i + 1) % n))) with
    | none => rfl
    | some s => exact Prod.ext (Int.neg_tdiv s 4) rfl
  · constructor
    · intro h1 i hi
      show (turn (pt l (n - 1 - i)) (pt l (n - 1 - (i + 1) % n))).2 = true
      rw [e i hi]; exact h1 _ (Nat.mod_lt _ (by omega))
    · intro h1 i hi
      -- the pair i is told as the pair that comes to it backwards
      have hj : (2 * n - 2 - i) % n < n := Nat.mod_lt _ (by omega)
      have := h1 _ hj
      have e2 := e _ hj
      have e3 : (n - 1 - (2 * n - 2 - i) % n + (n - 1)) % n = i := by
        by_cases hin : i + 1 = n
        · rw [show 2 * n - 2 - i = n - 1 by omega, Nat.mod_eq_of_lt (show n - 1 < n by omega), show n - 1 - (n - 1) + (n - 1) = n - 1 by omega, Nat.mod_eq_of_lt (show n - 1 < n by omega)]; omega
        · rw [show 2 * n - 2 - i = (n - 2 - i) + n by omega, Nat.add_mod_right, Nat.mod_eq_of_lt (show n - 2 - i < n by omega), show n - 1 - (n - 2 - i) + (n - 1) = i + n by omega, Nat.add_mod_right, Nat.mod_eq_of_lt hi]
      rw [e3] at e2
      change (turn (pt l (n - 1 - (2 * n - 2 - i) % n)) (pt l (n - 1 - ((2 * n - 2 - i) % n + 1) % n))).2 = true at this
      rw [e2] at this; exact this
  · intro _
    show sumR _ n = -sumR _ n
    rw [← sumR_rot (fun i => (turn (pt l i) (pt l ((i + 1) % n))).1) n (n - 1), ← sumR_rev (fun i => (turn (pt l ((i + (n - 1)) % n)) (pt l (((i + (n - 1)) % n + 1) % n))).1) n, ← sumR_neg]
    refine sumR_congr fun i hi => ?_
    show (turn (pt l (n - 1 - i)) (pt l (n - 1 - (i + 1) % n))).1 = _
    rw [e i hi]
/-- Begun elsewhere. -/
theorem number_on (l k : List Cq) (d : Nat) (hl : k.length = l.length) (h : ∀ i, i < l.length → pt k i = pt l ((i + d) % l.length)) : number k = number l := by
  rw [number_of k _ l.length hl h, number_of l _ l.length rfl (fun _ _ => rfl)]
  generalize hn : l.length = n at *
  have e : ∀ i, turn (pt l ((i + d) % n)) (pt l (((i + 1) % n + d) % n)) = turn (pt l ((i + d) % n)) (pt l (((i + d) % n + 1) % n)) := by
    intro i
    rw [Nat.mod_add_mod, Nat.mod_add_mod]
    congr 3; omega
  have ht := turns_alike (n := n) (T := fun i => turn (pt l i) (pt l ((i + 1) % n))) (T' := fun i => turn (pt l ((i + d) % n)) (pt l (((i + 1) % n + d) % n))) (g := id) ?_ ?_
  · rw [ht, Option.map_id_fun]; rfl
  · constructor
    · intro h1 i hi
      show (turn _ _).2 = true
      rw [e i]; exact h1 _ (Nat.mod_lt _ (by omega))
    · intro h1 i hi
      have hj : (i + (n - d % n)) % n < n := Nat.mod_lt _ (by omega)
      have := h1 _ hj
      change (turn (pt l (((i + (n - d % n)) % n + d) % n)) (pt l ((((i + (n - d % n)) % n + 1) % n + d) % n))).2 = true at this
      rw [e] at this
      have e3 : ((i + (n - d % n)) % n + d) % n = i := by
        have h4 := Nat.mod_lt d (by omega : n > 0)
        have h5 := Nat.div_add_mod d n
        have h6 : i + (n - d % n) + d = i + n * (d / n + 1) := by
          rw [Nat.mul_add, Nat.mul_one]
          generalize n * (d / n) = X at *
          generalize d % n = r at *
          omega
        rw [Nat.mod_add_mod, h6, Nat.add_mul_mod_self_left, Nat.mod_eq_of_lt hi]
      rwa [e3] at this
  · intro _
    show _ = sumR _ n
    rw [← sumR_rot (fun i => (turn (pt l i) (pt l ((i + 1) % n))).1) n d]
    refine sumR_congr fun i hi => ?_
    show (turn (pt l ((i + d) % n)) (pt l (((i + 1) % n + d) % n))).1 = _
    rw [e i]

def turnD (D s : Int) : Int × Bool := if D = 3 then (-1, true) else if D = 2 then (2 * s, decide (s ≠ 0)) else (D, true)
theorem turnQ_eq {x y s : Int} (hx : 0 ≤ x) (hy : 0 ≤ y) : turnQ x y s = turnD ((y - x + 4) % 4) s := by
  unfold turnQ
  rw [if_neg (by omega)]; rfl
theorem turnD_shift {D c d s : Int} (hD : D = 0 ∨ D = 1 ∨ D = 2 ∨ D = 3) (hc : c = 0 ∨ c = 1) (hd : d = 0 ∨ d = 1) (hs : s = -1 ∨ s = 0 ∨ s = 1) (h1 : D = 1 → s = 1) (h3 : D = 3 → s = -1)
    (h1' : (D + d - c + 4) % 4 = 1 → s = 1) (h3' : (D + d - c + 4) % 4 = 3 → s = -1) : turnD ((D + d - c + 4) % 4) s = ((turnD D s).1 + d - c, (turnD D s).2) := by
  rcases hD with rfl | rfl | rfl | rfl <;> rcases hc with rfl | rfl <;> rcases hd with rfl | rfl <;> rcases hs with rfl | rfl | rfl <;> first | decide | (exfalso; revert h1; decide) | (exfalso; revert h3; decide) | (exfalso; revert h1'; decide) | (exfalso; revert h3'; decide)
theorem turnQ_shift {x y w c d s : Int} (hx : 0 ≤ x ∧ x ≤ 3) (hy : 0 ≤ y ∧ y ≤ 3) (hc : c = 0 ∨ c = 1) (hd : d = 0 ∨ d = 1) (hs : -1 ≤ s ∧ s ≤ 1) (h1 : (y - x + 4) % 4 = 1 → s = 1) (h3 : (y - x + 4) % 4 = 3 → s = -1)
    (h1' : ((y + w + d) % 4 - (x + w + c) % 4 + 4) % 4 = 1 → s = 1) (h3' : ((y + w + d) % 4 - (x + w + c) % 4 + 4) % 4 = 3 → s = -1) : turnQ ((x + w + c) % 4) ((y + w + d) % 4) s = ((turnQ x y s).1 + d - c, (turnQ x y s).2) := by
  have e : ((y + w + d) % 4 - (x + w + c) % 4 + 4) % 4 = ((y - x + 4) % 4 + d - c + 4) % 4 := by omega
  rw [e] at h1' h3'
  rw [turnQ_eq (by omega) (by omega), turnQ_eq hx.1 hy.1, e]
  exact turnD_shift (by omega) hc hd (by omega) h1 h3 h1' h3'
theorem cmul_rot (a z : Cq) : cmul (-a.2, a.1) z = (-(cmul a z).2, (cmul a z).1) := by refine Prod.ext ?_ ?_ <;> simp only [cmul] <;> grind
theorem cmul_comm (a z : Cq) : cmul a z = cmul z a := by refine Prod.ext ?_ ?_ <;> simp only [cmul] <;> grind
theorem quart_ne {z : Cq} (h : 0 ≤ quart z) : ¬ (z.1 = 0 ∧ z.2 = 0) := by
  rintro ⟨h1, h2⟩
  unfold quart at h; rw [h1, h2] at h
  revert h; decide
def Qm (a z : Cq) : Prop := quart (cmul a z) = (quart a + quart z) % 4 ∨ quart (cmul a z) = (quart a + quart z + 1) % 4
theorem Qm.zero {a z : Cq} (ha : quart a = 0) (hz : quart z = 0) : Qm a z := by
  unfold Qm
  rw [ha, hz]
  obtain ⟨p, q⟩ := a
  obtain ⟨r, s⟩ := z
  have h1 := (quart_sgn (p, q)).1 ha
  have h2 := (quart_sgn (r, s)).1 hz
  dsimp only at h1 h2
  have m1 : 0 < p * r := mul_pos h1.1 h2.1
  have m2 : 0 ≤ q * s := mul_nn h1.2 h2.2
  have m3 : 0 ≤ p * s := mul_nn (by grind) h2.2
  have m4 : 0 ≤ q * r := mul_nn h1.2 (by grind)
  by_cases hq : q = 0
  · left
    have m5 : q * s = 0 := by rw [hq]; grind
    show quart (p * r - q * s, p * s + q * r) = 0
    unfold quart
    exact if_pos ⟨by show 0 < p * r - q * s; grind, by show 0 ≤ p * s + q * r; grind⟩
  · have m5 : 0 < q * r := mul_pos (by grind) h2.1
    by_cases hr : 0 < p * r - q * s
    · left
      show quart (p * r - q * s, p * s + q * r) = 0
      unfold quart
      exact if_pos ⟨hr, by show 0 ≤ p * s + q * r; grind⟩
    · right
      show quart (p * r - q * s, p * s + q * r) = 1
      unfold quart
      rw [if_neg (fun h => hr h.1)]
      exact if_pos ⟨by show 0 < p * s + q * r; grind, by show p * r - q * s ≤ 0; grind⟩
theorem Qm.rot {a z : Cq} (ha : 0 ≤ quart a) (h0 : 0 ≤ quart (cmul a z)) (h : Qm a z) : Qm (-a.2, a.1) z := by
  unfold Qm at h ⊢
  have e1 := (quart_rot a.1 a.2 (quart_ne ha)).2.1
  have e2 := (quart_rot (cmul a z).1 (cmul a z).2 (quart_ne h0)).2.1
  rw [cmul_rot, e1, e2]
  rw [show ((a.1, a.2) : Cq) = a from rfl, show (((cmul a z).1, (cmul a z).2) : Cq) = cmul a z from rfl]
  omega
theorem Qm.ge {a z : Cq} (h : Qm a z) : 0 ≤ quart (cmul a z) := by unfold Qm at h; omega
theorem unrot {a : Cq} {k : Int} (h : quart a = k + 1) (hk : 0 ≤ k) : ∃ b : Cq, quart b = k ∧ a = (-b.2, b.1) := by
  refine ⟨(a.2, -a.1), ?_, by show a = (- -a.1, a.2); rw [show - -a.1 = a.1 by grind]⟩
  have h1 := quart_rot a.2 (-a.1) (by
    rintro ⟨h1, h2⟩
    exact quart_ne (z := a) (by omega) ⟨by grind, h1⟩)
  rw [show - -a.1 = a.1 by grind, show ((a.1, a.2) : Cq) = a from rfl, h] at h1
  have h2 := (quart_ge a).2
  have h3 := (quart_ge (a.2, -a.1)).2
  omega
theorem Qm.left {z : Cq} (hz : quart z = 0) : ∀ (k : Nat) (a : Cq), quart a = k → Qm a z
  | 0, a, h => Qm.zero h hz
  | k + 1, a, h => by
    obtain ⟨b, hb, rfl⟩ := unrot (k := k) (by rw [h]; omega) (by omega)
    have := Qm.left hz k b hb
    exact Qm.rot (by omega) this.ge this
theorem Qm.symm {a z : Cq} (h : Qm a z) : Qm z a := by unfold Qm at h ⊢; rw [cmul_comm, Int.add_comm]; exact h
theorem Qm.all {a : Cq} (ha : 0 ≤ quart a) : ∀ (k : Nat) (z : Cq), quart z = k → Qm a z
  | 0, z, h => Qm.left h (quart a).toNat a (by omega)
  | k + 1, z, h => by
    obtain ⟨b, hb, rfl⟩ := unrot (k := k) (by rw [h]; omega) (by omega)
    have := (Qm.all ha k b hb).symm
    exact (Qm.rot (by omega) this.ge this).symm
theorem cmul_zero_l {a z : Cq} (h : quart a < 0) : quart (cmul a z) = -1 := by
  obtain ⟨h1, h2⟩ := quart_neg h
  unfold cmul; rw [h1, h2]
  rw [show (0 : Dyadic) * z.1 - 0 * z.2 = 0 by grind, show (0 : Dyadic) * z.2 + 0 * z.1 = 0 by grind]; decide
/-- By how much a point's quarter goes on, beyond the quarter it is multiplied by. -/
def carryQ (z a : Cq) : Int := (quart (cmul a z) - quart a - quart z) % 4
theorem cross_cmul (a b z : Cq) : cross (cmul a z) (cmul b z) = (z.1 * z.1 + z.2 * z.2) * cross a b := by unfold cross cmul; dsimp only; grind
theorem cross_sgn {a b z : Cq} (hz : 0 ≤ quart z) : dsg (cross (cmul a z) (cmul b z)) = dsg (cross a b) := by
  rw [cross_cmul, dsg_mul, dsg_one.2 (sq_pos (quart_ne hz)), Int.one_mul]
theorem turn_cmul {a b z : Cq} (hz : 0 ≤ quart z) (ha : 0 ≤ quart a) (hb : 0 ≤ quart b) : turn (cmul a z) (cmul b z) = ((turn a b).1 + carryQ z b - carryQ z a, (turn a b).2) := by
  have h1 := Qm.all ha (quart z).toNat z (by omega)
  have h2 := Qm.all hb (quart z).toNat z (by omega)
  have ha3 := (quart_ge a).2
  have hb3 := (quart_ge b).2
  have hz3 := (quart_ge z).2
  unfold Qm at h1 h2
  have c1 : carryQ z a = 0 ∨ carryQ z a = 1 := by unfold carryQ; omega
  have c2 : carryQ z b = 0 ∨ carryQ z b = 1 := by unfold carryQ; omega
  have q1 : quart (cmul a z) = (quart a + quart z + carryQ z a) % 4 := by unfold carryQ; omega
  have q2 : quart (cmul b z) = (quart b + quart z + carryQ z b) % 4 := by unfold carryQ; omega
  have n1 : (quart b - quart a + 4) % 4 = 1 → dsg (cross a b) = 1 := fun h => dsg_one.2 (cross_next ha hb h)
  have n2 : (quart b - quart a + 4) % 4 = 3 → dsg (cross a b) = -1 := fun h => dsg_neg_one.2 (cross_prev ha hb h)
  have n3 : (quart (cmul b z) - quart (cmul a z) + 4) % 4 = 1 → dsg (cross a b) = 1 := fun h => by rw [← cross_sgn hz]; exact dsg_one.2 (cross_next (by omega) (by omega) h)
  have n4 : (quart (cmul b z) - quart (cmul a z) + 4) % 4 = 3 → dsg (cross a b) = -1 := fun h => by rw [← cross_sgn hz]; exact dsg_neg_one.2 (cross_prev (by omega) (by omega) h)
  have hs : -1 ≤ dsg (cross a b) ∧ dsg (cross a b) ≤ 1 := by rcases dsg_cases (cross a b) with h | h | h <;> omega
  unfold turn
  rw [cross_sgn hz]
  rw [q1, q2] at n3 n4 ⊢
  exact turnQ_shift ⟨ha, ha3⟩ ⟨hb, hb3⟩ c1 c2 hs n1 n2 n3 n4
theorem turn_bad_l {a b : Cq} (h : quart a < 0) : turn a b = (0, false) := by unfold turn turnQ; rw [if_pos (.inl h)]
theorem turn_bad_r {a b : Cq} (h : quart b < 0) : turn a b = (0, false) := by unfold turn turnQ; rw [if_pos (.inr h)]
/-- Multiplied. -/
theorem number_times (l k : List Cq) (z : Cq) (hz : 0 ≤ quart z) (hl : k.length = l.length) (h : ∀ i, i < l.length → pt k i = cmul (pt l i) z) : number k = number l := by
  rw [number_of k _ l.length hl h, number_of l _ l.length rfl (fun _ _ => rfl)]
  generalize hn : l.length = n at *
  have e : ∀ i, i < n → (turn (pt l i) (pt l ((i + 1) % n))).2 = true → turn (cmul (pt l i) z) (cmul (pt l ((i + 1) % n)) z) = ((turn (pt l i) (pt l ((i + 1) % n))).1 + carryQ z (pt l ((i + 1) % n)) - carryQ z (pt l i), true) := by
    intro i hi ht
    by_cases h1 : quart (pt l i) < 0
    · rw [turn_bad_l h1] at ht; cases ht
    by_cases h2 : quart (pt l ((i + 1) % n)) < 0
    · rw [turn_bad_r h2] at ht; cases ht
    rw [turn_cmul hz (by omega) (by omega), ht]
  have e' : ∀ i, i < n → (turn (cmul (pt l i) z) (cmul (pt l ((i + 1) % n)) z)).2 = true → (turn (pt l i) (pt l ((i + 1) % n))).2 = true := by
    intro i hi ht
    by_cases h1 : quart (pt l i) < 0
    · rw [turn_bad_l (by rw [cmul_zero_l h1]; decide)] at ht; cases ht
    by_cases h2 : quart (pt l ((i + 1) % n)) < 0
    · rw [turn_bad_r (by rw [cmul_zero_l h2]; decide)] at ht; cases ht
    rwa [turn_cmul hz (by omega) (by omega)] at ht
  have ht := turns_alike (n := n) (T := fun i => turn (pt l i) (pt l ((i + 1) % n))) (T' := fun i => turn (cmul (pt l i) z) (cmul (pt l ((i + 1) % n)) z)) (g := id) ?_ ?_
  · rw [ht, Option.map_id_fun]; rfl
  · exact ⟨fun h1 i hi => by show (turn _ _).2 = true; rw [e i hi (h1 i hi)], fun h1 i hi => e' i hi (h1 i hi)⟩
  · intro h1
    show _ = sumR _ n
    rw [sumR_congr (g := fun i => (turn (pt l i) (pt l ((i + 1) % n))).1 + (carryQ z (pt l ((i + 1) % n)) + -carryQ z (pt l i))) (fun i hi => by rw [e i hi (h1 i hi)]; show _ + _ - _ = _ + (_ + -_); omega)]
    rw [sumR_add, sumR_add, sumR_next (fun i => carryQ z (pt l i)), sumR_neg]; omega
theorem number_null (l : List Cq) (h0 : l.length ≠ 0) (h : ∀ i, i < l.length → quart (pt l i) < 0) : number l = (0, false) := by
  rw [number_of l _ l.length rfl (fun _ _ => rfl), turns_bad _ _ 0 (by omega) (by rw [turn_bad_l (h 0 (by omega))])]
end Go.Ev.Ar

namespace Go.Ev.Ar
open Go Go.Ev Go.Proofs

/-- A row of points in the call's own memory. -/
def rowA (xs : List RC) : List A := (xs.flatMap RC.cells).map A.d
theorem rowA_app (xs : List RC) (r : RC) : rowA xs ++ r.cells.map A.d = rowA (xs ++ [r]) := by unfold rowA; simp
theorem rowA_len (xs : List RC) : (rowA xs).length = xs.length * 6 := by unfold rowA; rw [List.length_map, flat_len]
theorem row_sl (xs : List RC) (n : Nat) (h : xs.length = n) : D.slice n (((xs.flatMap RC.cells).drop 0).take (n * 6)) = csl xs := by
  subst h
  unfold csl; rw [List.drop_zero, List.take_of_length_le (by rw [flat_len]; omega)]
theorem range_map_succ {α : Type} (f : Nat → α) (i : Nat) : (List.range (i + 1)).map f = (List.range i).map f ++ [f i] := by rw [List.range_succ, List.map_append]; rfl
theorem turns_bound : ∀ {l : List (Int × Bool)} {s : Int}, (∀ t ∈ l, -2 ≤ t.1 ∧ t.1 ≤ 2) → turns l = some s → -(2 * (l.length : Int)) ≤ s ∧ s ≤ 2 * l.length
  | [], s, _, h => by simp only [turns, Option.some.injEq] at h; subst h; simp
  | t :: l, s, hb, h => by
    simp only [turns] at h
    split at h
    · simp only [Option.map_eq_some_iff] at h
      obtain ⟨s', h1, rfl⟩ := h
      have h2 := turns_bound (fun t ht => hb t (List.mem_cons_of_mem _ ht)) h1
      have h3 := hb t (by simp)
      rw [List.length_cons]; omega
    · cases h
theorem number_bound (l : List Cq) : -(l.length : Int) ≤ (number l).1 ∧ (number l).1 ≤ l.length := by
  unfold number
  split
  · rename_i s h
    have := turns_bound (fun t ht => by
      unfold ring at ht
      obtain ⟨i, _, rfl⟩ := List.mem_map.1 ht
      exact turn_le _ _) h
    rw [ring_length] at this
    exact tdiv_four this.1 this.2
  · dsimp only; omega
theorem number_is {xs : List RC} {n : Int} {t : Bool} (hlen : xs.length ≤ 100000) (hx : ∀ r ∈ xs, CxR (.agg r.cells) r.val ∧ Hc 200000 r.val) (h : number (xs.map RC.val) = (n, t)) : Sim Tryd.prog G0 true 11 [csl xs] (.tup [.int .i64 n, .bool t]) := by
  have s := number_sim xs hlen hx
  rwa [h] at s
/-- The three rows. -/
def backR (xs : List RC) (q : Nat) : RC := xs.getD (xs.length - 1 - q) RC.nil
def onR (xs : List RC) (k q : Nat) : RC := xs.getD ((q + k) % xs.length) RC.nil
def timR (xs : List RC) (z : Cq) (q : Nat) : RC := RC.of (cmul (xs.getD q RC.nil).val z)
theorem pt_map (f : Nat → RC) (n i : Nat) (h : i < n) : pt (((List.range n).map f).map RC.val) i = (f i).val := by
  unfold pt; simp [h]
theorem pt_xs (xs : List RC) (i : Nat) : pt (xs.map RC.val) i = (xs.getD i RC.nil).val := RC.getD_val xs i
theorem n_sub1i (n i : Nat) (h : i < n) (hn : n ≤ 100000) : IntKind.i64.wrap (((n : Int) - 1) - i) = ((n - 1 - i : Nat) : Int) := by
  rw [wrap_in (by omega) (by omega)]; omega
theorem kr0 (X : List RC) : rowA X = (X.flatMap RC.cells).map A.d := rfl
theorem kr1 (b : Nat) (X : List RC) : A.kills b (rowA X) = (X.flatMap RC.cells).map A.d := A.kills_map _ _
theorem kr2 (b c : Nat) (X : List RC) : A.kills c (A.kills b (rowA X)) = (X.flatMap RC.cells).map A.d := by rw [kr1, A.kills_map]
theorem rl0 (f : Nat → RC) (i : Nat) : (rowA ((List.range i).map f)).length = i * 6 := by rw [rowA_len, List.length_map, List.length_range]
theorem rl1 (f : Nat → RC) (i b : Nat) : (A.kills b (rowA ((List.range i).map f))).length = i * 6 := by rw [length_kills]; exact rl0 f i
theorem rl2 (f : Nat → RC) (i b c : Nat) : (A.kills c (A.kills b (rowA ((List.range i).map f)))).length = i * 6 := by rw [length_kills]; exact rl1 f i b
theorem krr (b : Nat) (X : List RC) : A.kills b (rowA X) = rowA X := A.kills_map _ _
theorem refs_row (ks : List Nat) (X : List RC) : A.refsIns ks (rowA X) = true := A.refsIns_map _ _
theorem one_rc (r : RC) : ∀ c ∈ r.cells, (A.d c).one = true := by
  intro c hc
  simp only [RC.cells, List.mem_cons, List.not_mem_nil, or_false] at hc
  rcases hc with rfl | rfl | rfl | rfl | rfl | rfl <;> rfl
theorem cx_ixI (xs : List RC) (i : Int) (j : Nat) (e : i = j) (h : j < xs.length) : (0 ≤ i ∧ i < (xs.length : Int)) ∧ i.toNat * 6 < (xs.flatMap RC.cells).length := by
  subst e; exact cx_ix xs j h
theorem cx_tkI (xs : List RC) (i : Int) (j : Nat) (e : i = j) (h : j < xs.length) : (((xs.flatMap RC.cells).drop (i.toNat * 6)).drop 0).take 6 = (xs.getD j RC.nil).cells := by
  subst e; exact cx_tk xs j h
end Go.Ev.Ar

namespace Go.Ev.Ar
open Go Go.Ev Go.Proofs

theorem rcadd_sim {a b w : Cq} (ha : Hc 4000 a) (hb : Hc 4000 b) (h : (a.1 + b.1, a.2 + b.2) = w) : Sim Tryd.prog G0 false 10 [cxD a, cxD b] (cxD w) := by
  subst h
  obtain ⟨a1, a2⟩ := ha
  obtain ⟨b1, b2⟩ := hb
  obtain ⟨p, q⟩ := a
  obtain ⟨r, s⟩ := b
  refine sim_mk tab_ok Tryd.func10 rfl (by kernel_rfl) rfl ⟨Nat.le_of_ble_eq_true rfl, Nat.le_of_ble_eq_true rfl⟩ ?_
  repeat' ((conv => whnf); first
    | with_reducible refine CallX.data ?_
    | refine CallE.mk _ _ (rdadd_sim (p := p) (q := r) (by first | assumption | (apply Ht.mono; (focus (repeat' (first | assumption | with_reducible apply Ht.add' | with_reducible apply Ht.sub' | with_reducible apply Ht.mul' | with_reducible apply Ht.neg | with_reducible apply Ht.abs | exact Ht.one | exact Ht.zero 0 | exact Ht.cst (by decide)))); decide)) (by first | assumption | (apply Ht.mono; (focus (repeat' (first | assumption | with_reducible apply Ht.add' | with_reducible apply Ht.sub' | with_reducible apply Ht.mul' | with_reducible apply Ht.neg | with_reducible apply Ht.abs | exact Ht.one | exact Ht.zero 0 | exact Ht.cst (by decide)))); decide))) ?_
    | refine CallE.mk _ _ (rdadd_sim (p := q) (q := s) (by first | assumption | (apply Ht.mono; (focus (repeat' (first | assumption | with_reducible apply Ht.add' | with_reducible apply Ht.sub' | with_reducible apply Ht.mul' | with_reducible apply Ht.neg | with_reducible apply Ht.abs | exact Ht.one | exact Ht.zero 0 | exact Ht.cst (by decide)))); decide)) (by first | assumption | (apply Ht.mono; (focus (repeat' (first | assumption | with_reducible apply Ht.add' | with_reducible apply Ht.sub' | with_reducible apply Ht.mul' | with_reducible apply Ht.neg | with_reducible apply Ht.abs | exact Ht.one | exact Ht.zero 0 | exact Ht.cst (by decide)))); decide))) ?_
    | refine RegE.early (Cd.mk (show regOk _ _ _ _ = true by kernel_rfl) ?_)
    | refine Cd.mk rfl ?_
    | refine Br.t ?_
    | refine Br.f ?_
    | with_reducible refine Br.eqd ?_
    | with_reducible refine Br.eqb ?_
    | with_reducible refine Br.dec (fun _ => ?_) (fun _ => ?_)
    | with_reducible refine Br.ndec (fun _ => ?_) (fun _ => ?_)
    | refine Br.mk (fun _ => ?_) (fun _ => ?_)
    | refine NthE.mk _ rfl ?_
    | refine And.intro (fun _ => ?_) ?_
    | (refine TkE.fL ?_; (conv => whnf); fail_if_success (show forceL _ _))
    | refine TkE.mk _ rfl rfl ?_
    | refine Res.mk ?_
    | refine LateE.mk (by repeat first | exact True.intro | refine And.intro (by kernel_rfl) ?_) ?_
    | refine DsE.mk [] rfl ?_
    | refine LoopEnd.go _ _ ⟨.inl rfl, rfl, rfl, by first | rfl | (repeat first | exact all_nil _ | refine all_la _ _ _ _ _ ?_)⟩ ?_
    | ((with_reducible refine EqE.idW ?_); first | with_reducible refine EqE.mk _ (n_i64 _ (by omega)) ?_ | with_reducible refine EqE.mk _ (n_succ _ (by omega)) ?_ | refine EqE.mk _ (wrap_in (by omega) (by omega)) ?_ | refine EqE.mk _ rfl ?_)
    | ((with_reducible refine EqE.idM ?_); refine EqE.mk _ rfl ?_)
    | ((with_reducible refine EqE.idI ?_); first | refine EqE.mk _ (max_eq _ _) ?_ | refine EqE.mk _ (min_eq _ _) ?_)
    | ((with_reducible refine EqE.idS ?_); first | (refine EqE.fP ?_; (conv => whnf); fail_if_success (show forceL _ _)) | refine EqE.mk _ rfl ?_)
    | ((with_reducible refine EqE.idL ?_); first | refine EqE.mk _ (sl_own _ _ _ _ (by omega) (by omega) rfl) ?_ | refine EqE.mk _ rfl ?_)
    | refine EqE.mk _ rfl ?_
    | refine Cd.mk (Nat.le_of_ble_eq_true rfl) ?_
    | refine Cd.mk ⟨rfl, rfl⟩ ?_
    | refine Cd.mk (by first | omega | (simp only [length_limbs, length_la]; omega)) ?_
    | refine Cd.mk ?_ ?_)
  rfl
def kA (i : Nat) : Int := [4, 4, 0, -4, -4, -4, 0, 4, 4].getD i 0
def kB (i : Nat) : Int := [0, 4, 4, 4, 0, -4, -4, -4, 0].getD i 0
def crX (i j t : Nat) : Int := kA i * (t - j) + kA (i + 1) * j
def crY (i j t : Nat) : Int := kB i * (t - j) + kB (i + 1) * j
def ipt (p : Int × Int) : Cq := (dof p.1 0, dof p.2 0)
def crP (t q : Nat) : Int × Int := (crX (q % (8 * t) / t) (q % (8 * t) % t) t, crY (q % (8 * t) / t) (q % (8 * t) % t) t)
set_option maxHeartbeats 4000000 in
theorem corner_sim (i j t : Nat) (hi : i < 8) (hj : j ≤ 3) (ht : t ≤ 3) : Sim Tryd.prog G0 false 9 [.int .i64 i, .int .i64 j, .int .i64 t] (cxD (ipt (crX i j t, crY i j t))) := by
  have hi8 : i = 0 ∨ i = 1 ∨ i = 2 ∨ i = 3 ∨ i = 4 ∨ i = 5 ∨ i = 6 ∨ i = 7 := by omega
  refine sim_mk tab_ok Tryd.func9 rfl (by kernel_rfl) rfl ⟨Nat.le_of_ble_eq_true rfl, Nat.le_of_ble_eq_true rfl⟩ ?_
  rcases hi8 with rfl | rfl | rfl | rfl | rfl | rfl | rfl | rfl <;>
  repeat' ((conv => whnf); first
    | with_reducible refine CallX.data ?_
    | refine RegE.lateS (ps := [(9, 5), (9, 6)]) rfl (by kernel_rfl) ?_ rfl
    | refine CallE.mk _ _ (rofd_sim _ (by omega) (by omega)) ?_
    | refine RegE.early (Cd.mk (show regOk _ _ _ _ = true by kernel_rfl) ?_)
    | refine Cd.mk rfl ?_
    | refine Br.t ?_
    | refine Br.f ?_
    | with_reducible refine Br.eqd ?_
    | with_reducible refine Br.eqb ?_
    | with_reducible refine Br.dec (fun _ => ?_) (fun _ => ?_)
    | with_reducible refine Br.ndec (fun _ => ?_) (fun _ => ?_)
    | refine Br.mk (fun _ => ?_) (fun _ => ?_)
    | refine NthE.mk _ rfl ?_
    | refine And.intro (fun _ => ?_) ?_
    | (refine TkE.fL ?_; (conv => whnf); fail_if_success (show forceL _ _))
    | refine TkE.mk _ rfl rfl ?_
    | refine Res.mk ?_
    | refine LateE.mk (by repeat first | exact True.intro | refine And.intro (by kernel_rfl) ?_) ?_
    | refine DsE.mk [] rfl ?_
    | refine LoopEnd.go _ _ ⟨.inl rfl, rfl, rfl, by first | rfl | (repeat first | exact all_nil _ | refine all_la _ _ _ _ _ ?_)⟩ ?_
    | ((with_reducible refine EqE.idW ?_); first | with_reducible refine EqE.mk _ (n_i64 _ (by omega)) ?_ | with_reducible refine EqE.mk _ (n_succ _ (by omega)) ?_ | refine EqE.mk _ (wrap_in (by omega) (by omega)) ?_ | refine EqE.mk _ rfl ?_)
    | ((with_reducible refine EqE.idM ?_); refine EqE.mk _ rfl ?_)
    | ((with_reducible refine EqE.idI ?_); first | refine EqE.mk _ (max_eq _ _) ?_ | refine EqE.mk _ (min_eq _ _) ?_)
    | ((with_reducible refine EqE.idS ?_); first | (refine EqE.fP ?_; (conv => whnf); fail_if_success (show forceL _ _)) | refine EqE.mk _ rfl ?_)
    | ((with_reducible refine EqE.idL ?_); first | refine EqE.mk _ (sl_own _ _ _ _ (by omega) (by omega) rfl) ?_ | refine EqE.mk _ rfl ?_)
    | refine EqE.mk _ rfl ?_
    | refine Cd.mk (Nat.le_of_ble_eq_true rfl) ?_
    | refine Cd.mk ⟨rfl, rfl⟩ ?_
    | refine Cd.mk (by first | omega | (simp only [length_limbs, length_la]; omega)) ?_
    | refine Cd.mk ?_ ?_)
  all_goals rfl
/-- Whole numbers: quarters, turns. -/
def quartI (p : Int × Int) : Int := if 0 < p.1 ∧ 0 ≤ p.2 then 0 else if 0 < p.2 ∧ p.1 ≤ 0 then 1 else if p.1 < 0 ∧ p.2 ≤ 0 then 2 else if p.2 < 0 ∧ 0 ≤ p.1 then 3 else -1
theorem dof_ge (m : Int) : 0 ≤ dof m 0 ↔ 0 ≤ m := by
  have := dof_lt_zero (m := m) (e := 0)
  constructor <;> intro h
  · apply Classical.byContradiction; intro g
    have := this.2 (by omega)
    grind
  · apply Classical.byContradiction; intro g
    have h2 : dof m 0 < 0 := by grind
    have := this.1 h2; omega
theorem dof_le0 (m : Int) : dof m 0 ≤ 0 ↔ m ≤ 0 := by
  have := dof_pos (m := m) (e := 0)
  constructor <;> intro h
  · apply Classical.byContradiction; intro g
    have := this.2 (by omega)
    grind
  · apply Classical.byContradiction; intro g
    have h2 : 0 < dof m 0 := by grind
    have := this.1 h2; omega
theorem quart_ipt (p : Int × Int) : quart (ipt p) = quartI p := by
  unfold quart quartI ipt
  simp only [dof_pos, dof_lt_zero, dof_ge, dof_le0]
def turnI2 (p q : Int × Int) : Int × Bool := turnQ (quartI p) (quartI q) (Int.sign (p.1 * q.2 - p.2 * q.1))
theorem turn_ipt (p q : Int × Int) : turn (ipt p) (ipt q) = turnI2 p q := by
  unfold turn turnI2
  rw [quart_ipt, quart_ipt]
  congr 1
  unfold cross ipt
  rw [dof_mul, dof_mul, dof_sub, dsg_dof]
def numI (f : Nat → Int × Int) (n : Nat) : Option Int := turns ((List.range n).map fun i => turnI2 (f i) (f ((i + 1) % n)))
theorem number_ipt (l : List Cq) (f : Nat → Int × Int) (n : Nat) (hl : l.length = n) (h : ∀ i, i < n → pt l i = ipt (f i)) (s : Int) (hs : numI f n = some s) (h0 : 0 < n) : number l = (s.tdiv 4, true) := by
  rw [number_of l (fun i => ipt (f i)) n hl h]
  have e : ((List.range n).map fun i => turn (ipt (f i)) (ipt (f ((i + 1) % n)))) = (List.range n).map fun i => turnI2 (f i) (f ((i + 1) % n)) := List.map_congr_left fun i _ => turn_ipt _ _
  rw [e]
  unfold numI at hs
  rw [hs, decide_eq_true h0]
theorem rings (t k : Nat) (ht : 1 ≤ t ∧ t ≤ 3) (hk : 1 ≤ k ∧ k ≤ 5) : numI (crP t) (k * (8 * t)) = some (4 * k) := by
  have h1 : t = 1 ∨ t = 2 ∨ t = 3 := by omega
  have h2 : k = 1 ∨ k = 2 ∨ k = 3 ∨ k = 4 ∨ k = 5 := by omega
  rcases h1 with rfl | rfl | rfl <;> rcases h2 with rfl | rfl | rfl | rfl | rfl <;> decide +kernel
/-- To the right of nought it doesn't turn. -/
theorem number_right (l : List Cq) (h0 : 0 < l.length) (h : ∀ i, i < l.length → 0 < (pt l i).1) : number l = (0, true) := by
  rw [number_of l _ l.length rfl (fun _ _ => rfl)]
  have q1 : ∀ i, i < l.length → quart (pt l i) = 0 ∨ quart (pt l i) = 3 := by
    intro i hi
    have := h i hi
    unfold quart
    by_cases h2 : 0 ≤ (pt l i).2
    · rw [if_pos ⟨this, h2⟩]; exact .inl rfl
    · rw [if_neg (fun g => h2 g.2), if_neg (fun g => by have := g.2; grind), if_neg (fun g => by have := g.1; grind), if_pos ⟨by grind, by grind⟩]; exact .inr rfl
  let hh : Nat → Int := fun i => if quart (pt l i) = 0 then 0 else -1
  have e : ∀ i, i < l.length → turn (pt l i) (pt l ((i + 1) % l.length)) = (hh ((i + 1) % l.length) - hh i, true) := by
    intro i hi
    have h1 := q1 i hi
    have h2 := q1 ((i + 1) % l.length) (Nat.mod_lt _ h0)
    unfold turn turnQ
    simp only [hh]
    rcases h1 with h1 | h1 <;> rcases h2 with h2 | h2 <;> rw [h1, h2] <;> rfl
  rw [turns_range _ _ (fun i hi => by show (turn _ _).2 = true; rw [e i hi])]
  rw [sumR_congr (g := fun i => hh ((i + 1) % l.length) + -hh i) (fun i hi => by show (turn _ _).1 = _; rw [e i hi]; show _ - _ = _ + -_; omega)]
  rw [sumR_add, sumR_next, sumR_neg, show sumR hh l.length + -sumR hh l.length = 0 by omega, decide_eq_true h0]; rfl
theorem ht12 (n : Int) (h : n.natAbs ≤ 50000) : Ht 100 (dof n 0) := Ht.dof (a := 64) (b := 0) (Zt.small (by omega) (by decide)) (by decide) (by decide) (by decide)
theorem kA_le (i : Nat) : (kA i).natAbs ≤ 4 ∧ (kB i).natAbs ≤ 4 := by
  unfold kA kB
  rcases i with _ | _ | _ | _ | _ | _ | _ | _ | _ | i <;> simp
theorem cr_le (i j t : Nat) (hj : j ≤ t) (ht : t ≤ 3) : (crX i j t).natAbs ≤ 12 ∧ (crY i j t).natAbs ≤ 12 := by
  unfold crX crY
  have h1 := kA_le i
  have h2 := kA_le (i + 1)
  have e : ((t : Int) - j) = ((t - j : Nat) : Int) := by omega
  have key : ∀ a b : Int, a.natAbs ≤ 4 → b.natAbs ≤ 4 → (a * ((t : Int) - j) + b * j).natAbs ≤ 12 := by
    intro a b ha hb
    rw [e]
    have h3 : (a * ((t - j : Nat) : Int)).natAbs ≤ 4 * (t - j) := by rw [Int.natAbs_mul, Int.natAbs_natCast]; exact Nat.mul_le_mul_right _ ha
    have h4 : (b * ((j : Nat) : Int)).natAbs ≤ 4 * j := by rw [Int.natAbs_mul, Int.natAbs_natCast]; exact Nat.mul_le_mul_right _ hb
    omega
  exact ⟨key _ _ h1.1 h2.1, key _ _ h1.2 h2.2⟩
/-- The rows that are gone round. -/
def ringR (t q : Nat) : RC := RC.of (ipt (crP t q))
def offR (t : Nat) (f : Int × Int) (q : Nat) : RC := RC.of (ipt ((crP t q).1 + f.1, (crP t q).2 + f.2))
theorem crP_le (t q : Nat) (ht : 1 ≤ t ∧ t ≤ 3) : (crP t q).1.natAbs ≤ 12 ∧ (crP t q).2.natAbs ≤ 12 := by
  unfold crP
  exact cr_le _ _ t (Nat.le_of_lt (Nat.mod_lt _ (by omega))) ht.2
theorem hc_ipt (p : Int × Int) (h : p.1.natAbs ≤ 50000 ∧ p.2.natAbs ≤ 50000) : Hc 100 (ipt p) := ⟨ht12 _ h.1, ht12 _ h.2⟩
theorem crP_at {t i j : Nat} (hj : j < 8 * t) : crP t (i * (8 * t) + j) = (crX (j / t) (j % t) t, crY (j / t) (j % t) t) := by
  unfold crP
  rw [Nat.mul_comm i, Nat.mul_add_mod, Nat.mod_eq_of_lt hj]
theorem corner_at {x y : Int} {t i j : Nat} {w : Cq} (hx : x = ((j / t : Nat) : Int)) (hy : y = ((j % t : Nat) : Int)) (hj : j < 8 * t) (ht : 1 ≤ t ∧ t ≤ 3) (h : ipt (crP t (i * (8 * t) + j)) = w) : Sim Tryd.prog G0 false 9 [.int .i64 x, .int .i64 y, .int .i64 (t : Nat)] (cxD w) := by
  subst hx hy
  rw [crP_at hj] at h
  subst h
  have h1 : j / t < 8 := Nat.div_lt_of_lt_mul (by rw [Nat.mul_comm]; exact hj)
  have h2 : j % t < t := Nat.mod_lt _ (by omega)
  exact corner_sim _ _ _ h1 (by omega) ht.2
end Go.Ev.Ar

namespace Go.Ev.Ar
open Go Go.Ev Go.Proofs

set_option maxHeartbeats 8000000 in
theorem windrings_sim (a b : Nat) (c d : Int) (ha : a < 256) (hb : b < 256) (hc : -32768 ≤ c ∧ c ≤ 32767) (hd : -32768 ≤ d ∧ d ≤ 32767) : Sim Tryd.prog G0 true 3 [.int .u8 a, .int .u8 b, .int .i16 c, .int .i16 d] (.bool true) := by
  obtain ⟨u, hu⟩ : ∃ u, a % 3 = u := ⟨_, rfl⟩
  obtain ⟨v, hv⟩ : ∃ v, b % 5 = v := ⟨_, rfl⟩
  have e1 : (a : Int).tmod 3 = ((u : Nat) : Int) := hu ▸ n_rem a 3
  have e2 : (b : Int).tmod 5 = ((v : Nat) : Int) := hv ▸ n_rem b 5
  have u2 : u ≤ 2 := by omega
  have v2 : v ≤ 4 := by omega
  obtain ⟨t, ht⟩ : ∃ t, t = u + 1 := ⟨_, rfl⟩
  obtain ⟨k, hk⟩ : ∃ k, k = v + 1 := ⟨_, rfl⟩
  have t1 : 1 ≤ t ∧ t ≤ 3 := by omega
  have k1 : 1 ≤ k ∧ k ≤ 5 := by omega
  have hfar := rof_sim (10000 + max c 0) d (by omega) (by omega) (by omega) (by omega)
  obtain ⟨f, hf⟩ : ∃ f : Int × Int, f = (10000 + max c 0, d) := ⟨_, rfl⟩
  have f1 : 10000 ≤ f.1 ∧ f.1 ≤ 42767 ∧ -32768 ≤ f.2 ∧ f.2 ≤ 32767 := by rw [hf]; dsimp only; omega
  rw [show ((dof (10000 + max c 0) 0, dof d 0) : Cq) = ipt f by rw [hf]; rfl] at hfar
  have hfc := hc_ipt f (by omega)
  refine sim_mk tab_ok Tryd.func3 rfl (by kernel_rfl) rfl ⟨Nat.le_of_ble_eq_true rfl, Nat.le_of_ble_eq_true rfl⟩ ?_
  repeat' ((conv => whnf); first
    | with_reducible refine CallX.data ?_
    | refine CallE.mk _ _ (known_sim) ?_
    | refine CallE.mk _ _ (hfar) ?_
    | refine RegE.early (Cd.mk (show regOk _ _ _ _ = true by kernel_rfl) ?_)
    | refine Cd.mk rfl ?_
    | refine Br.t ?_
    | refine Br.f ?_
    | with_reducible refine Br.eqd ?_
    | with_reducible refine Br.eqb ?_
    | with_reducible refine Br.dec (fun _ => ?_) (fun _ => ?_)
    | with_reducible refine Br.ndec (fun _ => ?_) (fun _ => ?_)
    | refine Br.mk (fun _ => ?_) (fun _ => ?_)
    | refine NthE.mk _ rfl ?_
    | refine And.intro (fun _ => ?_) ?_
    | (refine TkE.fL ?_; (conv => whnf); fail_if_success (show forceL _ _))
    | refine TkE.mk _ rfl rfl ?_
    | refine Res.mk ?_
    | refine LateE.mk (by repeat first | exact True.intro | refine And.intro (by kernel_rfl) ?_) ?_
    | refine DsE.mk [] rfl ?_
    | refine LoopEnd.go _ _ ⟨.inl rfl, rfl, rfl, by first | rfl | (repeat first | exact all_nil _ | refine all_la _ _ _ _ _ ?_)⟩ ?_
    | ((with_reducible refine EqE.idW ?_); first | refine EqE.mk ((t : Nat) : Int) (by rw [wrap_in (by omega) (by omega)]; omega) ?_ | refine EqE.mk ((k : Nat) : Int) (by rw [wrap_in (by omega) (by omega)]; omega) ?_ | with_reducible refine EqE.mk _ (n_i64 _ (by omega)) ?_ | with_reducible refine EqE.mk _ (n_succ _ (by omega)) ?_ | refine EqE.mk _ (wrap_in (by omega) (by omega)) ?_ | refine EqE.mk _ rfl ?_)
    | ((with_reducible refine EqE.idM ?_); first | refine EqE.mk _ e1 ?_ | refine EqE.mk _ e2 ?_ | refine EqE.mk _ rfl ?_)
    | ((with_reducible refine EqE.idI ?_); first | refine EqE.mk _ (max_eq _ _) ?_ | refine EqE.mk _ (min_eq _ _) ?_)
    | ((with_reducible refine EqE.idS ?_); first | (refine EqE.fP ?_; (conv => whnf); fail_if_success (show forceL _ _)) | refine EqE.mk _ rfl ?_)
    | ((with_reducible refine EqE.idL ?_); first | refine EqE.mk _ (sl_own _ _ _ _ (by omega) (by omega) rfl) ?_ | refine EqE.mk _ rfl ?_)
    | refine EqE.mk _ rfl ?_
    | refine Cd.mk (Nat.le_of_ble_eq_true rfl) ?_
    | refine Cd.mk ⟨rfl, rfl⟩ ?_
    | refine Cd.mk (by first | omega | (simp only [length_limbs, length_la]; omega)) ?_
    | refine Cd.mk ?_ ?_)
  refine ⟨[(11, 500, 6), (12, 501, 6)], [9, 10, 11, 12, 13, 14], [13, 500, 501], fun m ys h => ∃ i : Nat, m = k - i ∧ i ≤ k ∧
    ys = [.d (.int .i64 (k : Nat)), .d (.int .i64 (t : Nat)), .own 500 0 (i * (8 * t)) 6, .own 501 0 (i * (8 * t)) 6, .ptr 13 0, .d (.int .i64 (i : Nat))] ∧
    h = [(501, false, rowA ((List.range (i * (8 * t))).map (offR t f))), (500, false, rowA ((List.range (i * (8 * t))).map (ringR t))), (13, false, (RC.of (ipt f)).cells.map A.d)],
    ⟨rfl, rfl, ⟨Nat.le_of_ble_eq_true rfl, Nat.le_of_ble_eq_true rfl⟩, rfl, rfl, ⟨Nat.le_of_ble_eq_true rfl, Nat.le_of_ble_eq_true rfl⟩, ⟨_, _, _, ⟨.inl rfl, rfl, rfl, by first | rfl | (repeat first | exact all_nil _ | refine all_la _ _ _ _ _ ?_)⟩, 0, rfl, by omega, by rw [Nat.zero_mul]; rfl, by rw [Nat.zero_mul]; rfl⟩⟩, ?_⟩
  rintro m ys h ⟨i, rfl, hi, rfl, rfl⟩
  by_cases hlt : i < k
  · repeat' ((conv => whnf); first
      | with_reducible refine CallX.data ?_
      | with_reducible refine Br.dec (fun _ => ?_) (fun h => absurd (by omega) h)
      | refine RegE.early (Cd.mk (show regOk _ _ _ _ = true by kernel_rfl) ?_)
      | refine Cd.mk rfl ?_
      | refine Br.t ?_
      | refine Br.f ?_
      | with_reducible refine Br.eqd ?_
      | with_reducible refine Br.eqb ?_
      | with_reducible refine Br.dec (fun _ => ?_) (fun _ => ?_)
      | with_reducible refine Br.ndec (fun _ => ?_) (fun _ => ?_)
      | refine Br.mk (fun _ => ?_) (fun _ => ?_)
      | refine NthE.mk _ rfl ?_
      | refine And.intro (fun _ => ?_) ?_
      | (refine TkE.fL ?_; (conv => whnf); fail_if_success (show forceL _ _))
      | refine TkE.mk _ rfl rfl ?_
      | refine Res.mk ?_
      | refine LateE.mk (by repeat first | exact True.intro | refine And.intro (by kernel_rfl) ?_) ?_
      | refine DsE.mk [] rfl ?_
      | refine LoopEnd.go _ _ ⟨.inl rfl, rfl, rfl, by first | rfl | (repeat first | exact all_nil _ | refine all_la _ _ _ _ _ ?_)⟩ ?_
      | ((with_reducible refine EqE.idW ?_); first | with_reducible refine EqE.mk _ (n_i64 _ (by omega)) ?_ | with_reducible refine EqE.mk _ (n_succ _ (by omega)) ?_ | refine EqE.mk _ (wrap_in (by omega) (by omega)) ?_ | refine EqE.mk _ rfl ?_)
      | ((with_reducible refine EqE.idM ?_); refine EqE.mk _ rfl ?_)
      | ((with_reducible refine EqE.idI ?_); first | refine EqE.mk _ (max_eq _ _) ?_ | refine EqE.mk _ (min_eq _ _) ?_)
      | ((with_reducible refine EqE.idS ?_); first | (refine EqE.fP ?_; (conv => whnf); fail_if_success (show forceL _ _)) | refine EqE.mk _ rfl ?_)
      | ((with_reducible refine EqE.idL ?_); first | refine EqE.mk _ (sl_own _ _ _ _ (by omega) (by omega) rfl) ?_ | refine EqE.mk _ rfl ?_)
      | refine EqE.mk _ rfl ?_
      | refine Cd.mk (Nat.le_of_ble_eq_true rfl) ?_
      | refine Cd.mk ⟨rfl, rfl⟩ ?_
      | refine Cd.mk (by first | omega | (simp only [length_limbs, length_la]; omega)) ?_
      | refine Cd.mk ?_ ?_)
    refine ⟨[], [9, 10, 11, 12, 13, 14, 15], [13, 500, 501], fun m ys h => ∃ j : Nat, m = 8 * t - j ∧ j ≤ 8 * t ∧
      ys = [.d (.int .i64 (k : Nat)), .d (.int .i64 (t : Nat)), .own 500 0 (i * (8 * t) + j) 6, .own 501 0 (i * (8 * t) + j) 6, .ptr 13 0, .d (.int .i64 (i : Nat)), .d (.int .i64 (j : Nat))] ∧
      h = [(501, false, rowA ((List.range (i * (8 * t) + j)).map (offR t f))), (500, false, rowA ((List.range (i * (8 * t) + j)).map (ringR t))), (13, false, (RC.of (ipt f)).cells.map A.d)],
      ⟨_, _, _, ⟨.inl rfl, rfl, rfl, by simp [refs_row, A.refsIns_map]⟩, 0, rfl, by omega, rfl, rfl⟩, ?_⟩
    rintro m ys h ⟨j, rfl, hj, rfl, rfl⟩
    by_cases hjt : j < 8 * t
    · have k1' := range_map_succ (ringR t) (i * (8 * t) + j)
      have k2' := range_map_succ (offR t f) (i * (8 * t) + j)
      obtain ⟨q, hq⟩ : ∃ q, i * (8 * t) + j = q := ⟨_, rfl⟩
      have hq2 : i * (8 * t) + (j + 1) = q + 1 := by omega
      have hcl := crP_le t q t1
      have hqb : q ≤ 200 := by
        have := Nat.mul_le_mul (show i ≤ 5 by omega) (show 8 * t ≤ 24 by omega)
        omega
      have hcP := hc_ipt (crP t q) (by omega)
      have hcor := corner_at (i := i) (t := t) (j := j) (w := ipt (crP t q)) rfl rfl hjt t1 (by rw [hq])
      have hadd := rcadd_sim (a := ipt (crP t q)) (b := ipt f) (w := ipt ((crP t q).1 + f.1, (crP t q).2 + f.2)) (hcP.mono (by decide)) (hfc.mono (by decide)) (by unfold ipt; dsimp only; rw [dof_add, dof_add])
      rw [hq] at k1' k2'
      rw [show ringR t q = RC.of (ipt (crP t q)) from rfl] at k1'
      rw [show offR t f q = RC.of (ipt ((crP t q).1 + f.1, (crP t q).2 + f.2)) from rfl] at k2'
      generalize ipt ((crP t q).1 + f.1, (crP t q).2 + f.2) = w at *
      generalize ipt (crP t q) = p at *
      rw [hq]
      repeat' ((conv => whnf); first
        | with_reducible refine CallX.data ?_
        | refine LoopEnd.mk (8 * t - (j + 1)) [.d (.int .i64 (k : Nat)), .d (.int .i64 (t : Nat)), .own 500 0 (q + 1) 6, .own 501 0 (q + 1) 6, .ptr 13 0, .d (.int .i64 (i : Nat)), .d (.int .i64 (j + 1 : Nat))] [(501, false, rowA ((List.range (q + 1)).map (offR t f))), (500, false, rowA ((List.range (q + 1)).map (ringR t))), (13, false, (RC.of (ipt f)).cells.map A.d)] ⟨.inl rfl, ?_, rfl, ?_⟩ (by omega) ⟨j + 1, rfl, by omega, by rw [hq2], by rw [hq2]⟩
        | refine DsE.mk (RC.of p).cells rfl ?_
        | refine DsE.mk (RC.of w).cells rfl ?_
        | refine DsE.mk _ (kr0 _) ?_
        | refine DsE.mk _ (kr1 _ _) ?_
        | refine Cd.mk (one_rc (RC.of p)) ?_
        | refine Cd.mk (one_rc (RC.of w)) ?_
        | refine Cd.mk (rl0 _ _) ?_
        | refine Cd.mk (rl1 _ _ _) ?_
        | refine Cd.mk (by dsimp only; omega) ?_
        | with_reducible refine Br.dec (fun _ => ?_) (fun h => absurd (by omega) h)
        | refine CallE.mk _ _ (hcor) ?_
        | refine CallE.mk _ _ (hadd) ?_
        | refine RegE.early (Cd.mk (show regOk _ _ _ _ = true by kernel_rfl) ?_)
        | refine Cd.mk rfl ?_
        | refine Br.t ?_
        | refine Br.f ?_
        | with_reducible refine Br.eqd ?_
        | with_reducible refine Br.eqb ?_
        | with_reducible refine Br.dec (fun _ => ?_) (fun _ => ?_)
        | with_reducible refine Br.ndec (fun _ => ?_) (fun _ => ?_)
        | refine Br.mk (fun _ => ?_) (fun _ => ?_)
        | refine NthE.mk _ rfl ?_
        | refine And.intro (fun _ => ?_) ?_
        | (refine TkE.fL ?_; (conv => whnf); fail_if_success (show forceL _ _))
        | refine TkE.mk _ rfl rfl ?_
        | refine Res.mk ?_
        | refine LateE.mk (by repeat first | exact True.intro | refine And.intro (by kernel_rfl) ?_) ?_
        | refine DsE.mk [] rfl ?_
        | refine LoopEnd.go _ _ ⟨.inl rfl, rfl, rfl, by first | rfl | (repeat first | exact all_nil _ | refine all_la _ _ _ _ _ ?_)⟩ ?_
        | ((with_reducible refine EqE.idW ?_); first | refine EqE.mk _ (n_quo j t (by omega)) ?_ | refine EqE.mk _ (n_iadd _ _ (by omega)) ?_ | refine EqE.mk _ (wrap_in (by omega) (by omega)) ?_ | with_reducible refine EqE.mk _ (n_i64 _ (by omega)) ?_ | with_reducible refine EqE.mk _ (n_succ _ (by omega)) ?_ | refine EqE.mk _ (wrap_in (by omega) (by omega)) ?_ | refine EqE.mk _ rfl ?_)
        | ((with_reducible refine EqE.idM ?_); first | refine EqE.mk _ (n_rem _ _) ?_ | refine EqE.mk _ rfl ?_)
        | ((with_reducible refine EqE.idI ?_); first | refine EqE.mk _ (max_eq _ _) ?_ | refine EqE.mk _ (min_eq _ _) ?_)
        | ((with_reducible refine EqE.idS ?_); first | (refine EqE.fP ?_; (conv => whnf); fail_if_success (show forceL _ _)) | refine EqE.mk _ rfl ?_)
        | ((with_reducible refine EqE.idL ?_); first | refine EqE.mk _ (sl_own _ _ _ _ (by omega) (by omega) rfl) ?_ | refine EqE.mk _ rfl ?_)
        | refine EqE.mk _ rfl ?_
        | refine Cd.mk (Nat.le_of_ble_eq_true rfl) ?_
        | refine Cd.mk ⟨rfl, rfl⟩ ?_
        | refine Cd.mk (by first | omega | (simp only [length_limbs, length_la]; omega)) ?_
        | refine Cd.mk ?_ ?_)
      · show [(501, false, A.kills 500 (rowA ((List.range q).map (offR t f))) ++ (RC.of w).cells.map A.d), (500, false, A.kills 501 (rowA ((List.range q).map (ringR t)) ++ (RC.of p).cells.map A.d)), (13, false, A.kills 501 (A.kills 500 ((RC.of (ipt f)).cells.map A.d)))] = _
        simp only [krr, rowA_app, A.kills_map, k1', k2']
      · simp [refs_row, A.refsIns_map]
    · obtain rfl : j = 8 * t := by omega
      have hq3 : i * (8 * t) + 8 * t = (i + 1) * (8 * t) := by rw [Nat.add_mul, Nat.one_mul]
      repeat' ((conv => whnf); first
        | with_reducible refine CallX.data ?_
        | refine LoopEnd.mk (k - (i + 1)) [.d (.int .i64 (k : Nat)), .d (.int .i64 (t : Nat)), .own 500 0 (i * (8 * t) + 8 * t) 6, .own 501 0 (i * (8 * t) + 8 * t) 6, .ptr 13 0, .d (.int .i64 (i + 1 : Nat))] [(501, false, rowA ((List.range (i * (8 * t) + 8 * t)).map (offR t f))), (500, false, rowA ((List.range (i * (8 * t) + 8 * t)).map (ringR t))), (13, false, (RC.of (ipt f)).cells.map A.d)] ⟨.inl rfl, rfl, rfl, ?_⟩ (by omega) ⟨i + 1, rfl, by omega, by rw [hq3], by rw [hq3]⟩
        | with_reducible refine Br.dec (fun h => absurd h (by omega)) (fun _ => ?_)
        | refine RegE.early (Cd.mk (show regOk _ _ _ _ = true by kernel_rfl) ?_)
        | refine Cd.mk rfl ?_
        | refine Br.t ?_
        | refine Br.f ?_
        | with_reducible refine Br.eqd ?_
        | with_reducible refine Br.eqb ?_
        | with_reducible refine Br.dec (fun _ => ?_) (fun _ => ?_)
        | with_reducible refine Br.ndec (fun _ => ?_) (fun _ => ?_)
        | refine Br.mk (fun _ => ?_) (fun _ => ?_)
        | refine NthE.mk _ rfl ?_
        | refine And.intro (fun _ => ?_) ?_
        | (refine TkE.fL ?_; (conv => whnf); fail_if_success (show forceL _ _))
        | refine TkE.mk _ rfl rfl ?_
        | refine Res.mk ?_
        | refine LateE.mk (by repeat first | exact True.intro | refine And.intro (by kernel_rfl) ?_) ?_
        | refine DsE.mk [] rfl ?_
        | refine LoopEnd.go _ _ ⟨.inl rfl, rfl, rfl, by first | rfl | (repeat first | exact all_nil _ | refine all_la _ _ _ _ _ ?_)⟩ ?_
        | ((with_reducible refine EqE.idW ?_); first | refine EqE.mk _ (n_iadd _ _ (by omega)) ?_ | refine EqE.mk _ (wrap_in (by omega) (by omega)) ?_ | with_reducible refine EqE.mk _ (n_i64 _ (by omega)) ?_ | with_reducible refine EqE.mk _ (n_succ _ (by omega)) ?_ | refine EqE.mk _ (wrap_in (by omega) (by omega)) ?_ | refine EqE.mk _ rfl ?_)
        | ((with_reducible refine EqE.idM ?_); refine EqE.mk _ rfl ?_)
        | ((with_reducible refine EqE.idI ?_); first | refine EqE.mk _ (max_eq _ _) ?_ | refine EqE.mk _ (min_eq _ _) ?_)
        | ((with_reducible refine EqE.idS ?_); first | (refine EqE.fP ?_; (conv => whnf); fail_if_success (show forceL _ _)) | refine EqE.mk _ rfl ?_)
        | ((with_reducible refine EqE.idL ?_); first | refine EqE.mk _ (sl_own _ _ _ _ (by omega) (by omega) rfl) ?_ | refine EqE.mk _ rfl ?_)
        | refine EqE.mk _ rfl ?_
        | refine Cd.mk (Nat.le_of_ble_eq_true rfl) ?_
        | refine Cd.mk ⟨rfl, rfl⟩ ?_
        | refine Cd.mk (by first | omega | (simp only [length_limbs, length_la]; omega)) ?_
        | refine Cd.mk ?_ ?_)
      simp [refs_row, A.refsIns_map]
  · obtain rfl : i = k := by omega
    clear hi hlt
    have hkt : 0 < i * (8 * t) := Nat.mul_pos (by omega) (by omega)
    have hkb : i * (8 * t) ≤ 200 := by
      have := Nat.mul_le_mul (show i ≤ 5 by omega) (show 8 * t ≤ 24 by omega)
      omega
    have lr : ((List.range (i * (8 * t))).map (ringR t)).length = i * (8 * t) := by simp
    have lo : ((List.range (i * (8 * t))).map (offR t f)).length = i * (8 * t) := by simp
    have mr : ∀ r ∈ (List.range (i * (8 * t))).map (ringR t), CxR (.agg r.cells) r.val ∧ Hc 200000 r.val := by
      intro r hr
      obtain ⟨q, hq, rfl⟩ := List.mem_map.1 hr
      have hcl := crP_le t q t1
      have hc := hc_ipt (crP t q) (by omega)
      unfold ringR
      rw [RC.of_val, RC.of_cells]
      exact ⟨.of (hc.mono (by decide)), hc.mono (by decide)⟩
    have mo : ∀ r ∈ (List.range (i * (8 * t))).map (offR t f), CxR (.agg r.cells) r.val ∧ Hc 200000 r.val := by
      intro r hr
      obtain ⟨q, hq, rfl⟩ := List.mem_map.1 hr
      have hcl := crP_le t q t1
      have hc := hc_ipt ((crP t q).1 + f.1, (crP t q).2 + f.2) (by dsimp only; omega)
      unfold offR
      rw [RC.of_val, RC.of_cells]
      exact ⟨.of (hc.mono (by decide)), hc.mono (by decide)⟩
    have N1 : number (((List.range (i * (8 * t))).map (ringR t)).map RC.val) = (((4 * i : Nat) : Int).tdiv 4, true) := by
      refine number_ipt _ (crP t) (i * (8 * t)) (by simp) (fun q hq => ?_) _ ?_ hkt
      · rw [pt_map _ _ _ hq]; unfold ringR; rw [RC.of_val]
      · rw [rings t i t1 k1]; rfl
    rw [show (((4 * i : Nat) : Int).tdiv 4) = (i : Int) by rw [Int.tdiv_eq_ediv_of_nonneg (by omega)]; omega] at N1
    have N2 : number (((List.range (i * (8 * t))).map (offR t f)).map RC.val) = (0, true) := by
      refine number_right _ (by simpa using hkt) fun q hq => ?_
      have hq : q < i * (8 * t) := by simpa using hq
      rw [pt_map _ _ _ hq]
      have hcl := crP_le t q t1
      unfold offR
      rw [RC.of_val]
      exact dof_pos.2 (by dsimp only; omega)
    have s1 := number_is (by omega) mr N1
    have s2 := number_is (by omega) mo N2
    repeat' ((conv => whnf); first
      | with_reducible refine CallX.data ?_
      | with_reducible refine Br.dec (fun h => absurd h (by omega)) (fun _ => ?_)
      | refine DsE.mk _ (kr0 _) ?_
      | refine DsE.mk _ (kr1 _ _) ?_
      | refine DsE.mk _ (kr2 _ _ _) ?_
      | refine CallE.mk _ _ (s1) ?_
      | refine CallE.mk _ _ (s2) ?_
      | refine RegE.early (Cd.mk (show regOk _ _ _ _ = true by kernel_rfl) ?_)
      | refine Cd.mk rfl ?_
      | refine Br.t ?_
      | refine Br.f ?_
      | with_reducible refine Br.eqd ?_
      | with_reducible refine Br.eqb ?_
      | with_reducible refine Br.dec (fun _ => ?_) (fun _ => ?_)
      | with_reducible refine Br.ndec (fun _ => ?_) (fun _ => ?_)
      | refine Br.mk (fun _ => ?_) (fun _ => ?_)
      | refine NthE.mk _ rfl ?_
      | refine And.intro (fun _ => ?_) ?_
      | (refine TkE.fL ?_; (conv => whnf); fail_if_success (show forceL _ _))
      | refine TkE.mk _ rfl rfl ?_
      | refine Res.mk ?_
      | refine LateE.mk (by repeat first | exact True.intro | refine And.intro (by kernel_rfl) ?_) ?_
      | refine DsE.mk [] rfl ?_
      | refine LoopEnd.go _ _ ⟨.inl rfl, rfl, rfl, by first | rfl | (repeat first | exact all_nil _ | refine all_la _ _ _ _ _ ?_)⟩ ?_
      | ((with_reducible refine EqE.idW ?_); first | with_reducible refine EqE.mk _ (n_i64 _ (by omega)) ?_ | with_reducible refine EqE.mk _ (n_succ _ (by omega)) ?_ | refine EqE.mk _ (wrap_in (by omega) (by omega)) ?_ | refine EqE.mk _ rfl ?_)
      | ((with_reducible refine EqE.idM ?_); refine EqE.mk _ rfl ?_)
      | ((with_reducible refine EqE.idI ?_); first | refine EqE.mk _ (max_eq _ _) ?_ | refine EqE.mk _ (min_eq _ _) ?_)
      | ((with_reducible refine EqE.idS ?_); first | (refine EqE.fP ?_; (conv => whnf); fail_if_success (show forceL _ _)) | refine EqE.mk _ rfl ?_)
      | ((with_reducible refine EqE.idL ?_); first | refine EqE.mk _ (row_sl _ _ lr) ?_ | refine EqE.mk _ (row_sl _ _ lo) ?_ | refine EqE.mk _ (sl_own _ _ _ _ (by omega) (by omega) rfl) ?_ | refine EqE.mk _ rfl ?_)
      | refine EqE.mk _ rfl ?_
      | refine Cd.mk (Nat.le_of_ble_eq_true rfl) ?_
      | refine Cd.mk ⟨rfl, rfl⟩ ?_
      | refine Cd.mk (by first | omega | (simp only [length_limbs, length_la]; omega)) ?_
      | refine Cd.mk ?_ ?_)
    all_goals rfl
theorem windrings_at (a b c d : Int) (h0 : 0 ≤ a) (h1 : a ≤ 255) (h2 : 0 ≤ b) (h3 : b ≤ 255) (h4 : -32768 ≤ c) (h5 : c ≤ 32767) (h6 : -32768 ≤ d) (h7 : d ≤ 32767) : Sim Tryd.prog G0 true 3 [.int .u8 a, .int .u8 b, .int .i16 c, .int .i16 d] (.bool true) := by
  obtain ⟨a, rfl⟩ := Int.eq_ofNat_of_zero_le h0
  obtain ⟨b, rfl⟩ := Int.eq_ofNat_of_zero_le h2
  exact windrings_sim a b c d (by omega) (by omega) ⟨h4, h5⟩ ⟨h6, h7⟩
end Go.Ev.Ar
