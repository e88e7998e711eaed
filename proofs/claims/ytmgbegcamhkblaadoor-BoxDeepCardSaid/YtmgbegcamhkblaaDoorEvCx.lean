/- Points of the plane, as data; quarters and turns. -/
import Derived.Test.YtmgbegcamhkblaaDoorEvZ
set_option linter.unusedSimpArgs false
set_option linter.unusedVariables false
namespace Go.Ev
open Go

abbrev Cq := Dyadic × Dyadic
/-- A point, as it must be told. -/
def cxD (z : Cq) : D := .agg [.bool (zneg (dman z.1)), sl (ofN (dman z.1).natAbs), .int .i64 (dexp z.1), .bool (zneg (dman z.2)), sl (ofN (dman z.2).natAbs), .int .i64 (dexp z.2)]
/-- Data that means a point. -/
inductive CxR : D → Cq → Prop where
  | mk {b : Bool} {l : List UInt32} {e : Int} {c : Bool} {k : List UInt32} {f : Int} {p q : Dyadic} (hp : DyR (.agg [.bool b, sl l, .int .i64 e]) p) (hq : DyR (.agg [.bool c, sl k, .int .i64 f]) q) :
    CxR (.agg [.bool b, sl l, .int .i64 e, .bool c, sl k, .int .i64 f]) (p, q)
def Hc (h : Nat) (z : Cq) : Prop := Ht h z.1 ∧ Ht h z.2
theorem Hc.mono {a b : Nat} {z : Cq} (h : Hc a z) (hab : a ≤ b) : Hc b z := ⟨h.1.mono hab, h.2.mono hab⟩
theorem CxR.of {z : Cq} (h : Hc 1048576 z) : CxR (cxD z) z := .mk (.of h.1) (.of h.2)
theorem CxR.hc {x : D} {z : Cq} (h : CxR x z) : Hc 1048576 z := by cases h with | mk hp hq => exact ⟨hp.ht, hq.ht⟩

/-- The quarter of a point. -/
def quart (z : Cq) : Int := if 0 < z.1 ∧ 0 ≤ z.2 then 0 else if 0 < z.2 ∧ z.1 ≤ 0 then 1 else if z.1 < 0 ∧ z.2 ≤ 0 then 2 else if z.2 < 0 ∧ 0 ≤ z.1 then 3 else -1
def cross (a b : Cq) : Dyadic := a.1 * b.2 - a.2 * b.1
def turnQ (x y s : Int) : Int × Bool := if x < 0 ∨ y < 0 then (0, false) else if (y - x + 4) % 4 = 3 then (-1, true) else if (y - x + 4) % 4 = 2 then (2 * s, decide (s ≠ 0)) else ((y - x + 4) % 4, true)
/-- By how many quarters the way from a to b turns. -/
def turn (a b : Cq) : Int × Bool := turnQ (quart a) (quart b) (dsg (cross a b))
theorem quart_cases (z : Cq) : quart z = -1 ∨ quart z = 0 ∨ quart z = 1 ∨ quart z = 2 ∨ quart z = 3 := by
  unfold quart; split <;> (try split) <;> (try split) <;> (try split) <;> simp
theorem quart_ge (z : Cq) : -1 ≤ quart z ∧ quart z ≤ 3 := by have := quart_cases z; omega

/-- The sum of the turns of a way from point to point; none: 0 lies on it. -/
def turns : List (Int × Bool) → Option Int
  | [] => some 0
  | t :: l => if t.2 = true then (turns l).map (t.1 + ·) else none
/-- The pairs that follow one another, the last one and the first one too. -/
def ring (l : List Cq) : List (Int × Bool) := (List.range l.length).map fun i => turn (l.getD i (0, 0)) (l.getD ((i + 1) % l.length) (0, 0))
/-- How often round nought. -/
def number (l : List Cq) : Int × Bool := match turns (ring l) with | some n => (n.tdiv 4, decide (0 < l.length)) | none => (0, false)
theorem turns_append : ∀ a b : List (Int × Bool), turns (a ++ b) = (turns a).bind fun s => (turns b).map (s + ·)
  | [], b => by simp [turns]
  | t :: a, b => by
    simp only [List.cons_append, turns, turns_append a b]
    split
    · cases turns a <;> cases turns b <;> simp [Int.add_assoc]
    · rfl
theorem turns_step {r : List (Int × Bool)} {i : Nat} {s : Int} (hi : i < r.length) (h : turns (r.take i) = some s) (ht : (r.getD i (0, false)).2 = true) : turns (r.take (i + 1)) = some (s + (r.getD i (0, false)).1) := by
  have e : r.getD i (0, false) = r[i] := by simp [hi]
  rw [List.take_succ_eq_append_getElem hi, turns_append, h]
  rw [e] at ht ⊢
  simp [turns, ht]
theorem turns_stop {r : List (Int × Bool)} {i : Nat} {s : Int} (hi : i < r.length) (h : turns (r.take i) = some s) (ht : (r.getD i (0, false)).2 = false) : turns r = none := by
  have e : r.getD i (0, false) = r[i] := by simp [hi]
  rw [← List.take_append_drop i r, List.drop_eq_getElem_cons hi, turns_append, h]
  rw [e] at ht
  simp [turns, ht]
theorem ring_length (l : List Cq) : (ring l).length = l.length := by simp [ring]
theorem ring_get (l : List Cq) (i : Nat) (hi : i < l.length) : (ring l).getD i (0, false) = turn (l.getD i (0, 0)) (l.getD ((i + 1) % l.length) (0, 0)) := by
  simp [ring, hi]
theorem turn_le (a b : Cq) : -2 ≤ (turn a b).1 ∧ (turn a b).1 ≤ 2 := by
  unfold turn turnQ
  have h1 := quart_ge a
  have h2 := quart_ge b
  rcases dsg_cases (cross a b) with ⟨_, h⟩ | ⟨_, h⟩ | ⟨_, h⟩ <;> rw [h] <;> split <;> (try split) <;> (try split) <;> simp only <;> omega
/-- A point as it lies in a row. -/
structure RC where
  b : Bool
  l : List UInt32
  e : Int
  c : Bool
  k : List UInt32
  f : Int
def RC.cells (r : RC) : List D := [.bool r.b, sl r.l, .int .i64 r.e, .bool r.c, sl r.k, .int .i64 r.f]
def RC.val (r : RC) : Cq := (dof (zv r.b r.l) r.e, dof (zv r.c r.k) r.f)
def RC.nil : RC := ⟨false, [], 0, false, [], 0⟩
/-- A row of points. -/
def csl (xs : List RC) : D := .slice xs.length (xs.flatMap RC.cells)
theorem flat_len : ∀ xs : List RC, (xs.flatMap RC.cells).length = xs.length * 6
  | [] => rfl
  | x :: xs => by rw [List.flatMap_cons, List.length_append, flat_len xs, List.length_cons]; simp [RC.cells]; omega
theorem flat_take : ∀ (xs : List RC) (i : Nat), i < xs.length → ((xs.flatMap RC.cells).drop (i * 6)).take 6 = (xs.getD i RC.nil).cells
  | [], i, h => by simp at h
  | x :: xs, 0, _ => by simp [RC.cells]
  | x :: xs, i + 1, h => by
    have := flat_take xs i (by simpa using h)
    rw [List.flatMap_cons, List.drop_append, show (i + 1) * 6 - x.cells.length = i * 6 by simp [RC.cells]; omega, List.drop_eq_nil_of_le (by simp [RC.cells]; omega), List.nil_append, this]
    simp
theorem cx_ix (xs : List RC) (i : Nat) (h : i < xs.length) : (0 ≤ (i : Int) ∧ (i : Int) < (xs.length : Int)) ∧ (i : Int).toNat * 6 < (xs.flatMap RC.cells).length := by
  rw [flat_len]; omega
theorem cx_tk (xs : List RC) (i : Nat) (h : i < xs.length) : (((xs.flatMap RC.cells).drop ((i : Int).toNat * 6)).drop 0).take 6 = (xs.getD i RC.nil).cells := by
  rw [List.drop_zero, Int.toNat_natCast]; exact flat_take xs i h
theorem RC.getD_val (xs : List RC) (i : Nat) : (xs.map RC.val).getD i (0, 0) = (xs.getD i RC.nil).val := by
  rw [List.getD_eq_getElem?_getD, List.getD_eq_getElem?_getD, List.getElem?_map]
  cases xs[i]? <;> rfl
theorem RC.getD_mem {xs : List RC} {i : Nat} (h : i < xs.length) : xs.getD i RC.nil ∈ xs := by
  simp [h]
theorem tdiv_four {s : Int} {n : Nat} (h1 : -(2 * (n : Int)) ≤ s) (h2 : s ≤ 2 * n) : -(n : Int) ≤ s.tdiv 4 ∧ s.tdiv 4 ≤ n := by
  have h : (s.tdiv 4).natAbs = s.natAbs / 4 := by rw [Int.natAbs_tdiv]; rfl
  omega
/-- Components of few limbs, of moderate exponents. -/
def fewD (n : Nat) (b : Int) (l : List UInt32) (e : Int) : Bool := decide (l.length ≤ n) && decide (-b ≤ e) && decide (e ≤ b)
def RC.few (n : Nat) (b : Int) (r : RC) : Bool := fewD n b r.l r.e && fewD n b r.k r.f
theorem fewD_iff {n : Nat} {b : Int} {l : List UInt32} {e : Int} : fewD n b l e = true ↔ l.length ≤ n ∧ -b ≤ e ∧ e ≤ b := by
  simp only [fewD, Bool.and_eq_true, decide_eq_true_eq, and_assoc]
theorem fewD_false {n : Nat} {b : Int} {l : List UInt32} {e : Int} (h : ¬ (l.length ≤ n ∧ -b ≤ e ∧ e ≤ b)) : fewD n b l e = false := by
  rw [← Bool.not_eq_true, fewD_iff]; exact h
theorem all_at {xs : List RC} {p : RC → Bool} {i : Nat} (h : i < xs.length) (hp : p (xs.getD i RC.nil) = false) : xs.all p = false := by
  rw [← Bool.not_eq_true, List.all_eq_true]
  intro h2
  rw [h2 _ (by simp [h])] at hp
  cases hp
theorem all_succ {xs : List RC} {p : RC → Bool} {i : Nat} (h : i < xs.length) (h1 : (xs.take i).all p = true) (hp : p (xs.getD i RC.nil) = true) : (xs.take (i + 1)).all p = true := by
  rw [List.take_succ_eq_append_getElem h, List.all_append, h1]
  have e : xs.getD i RC.nil = xs[i] := by simp [h]
  rw [e] at hp
  simp [hp]
theorem RC.few_iff {n : Nat} {b : Int} {r : RC} : r.few n b = true ↔ (r.l.length ≤ n ∧ -b ≤ r.e ∧ r.e ≤ b) ∧ (r.k.length ≤ n ∧ -b ≤ r.f ∧ r.f ≤ b) := by
  simp only [RC.few, Bool.and_eq_true, fewD_iff]
theorem ht_few {c : Bool} {n : Nat} {b : Nat} {l : List UInt32} {e : Int} (h : l.length ≤ n ∧ -(b : Int) ≤ e ∧ e ≤ b) : Ht (32 * n + b) (dof (zv c l) e) :=
  Ht.dof (a := 32 * n) (b := b) (Zt.of_len h.1 (Nat.le_refl _)) h.2.1 h.2.2 (Nat.le_refl _)
theorem dyR_few {c : Bool} {n : Nat} {b : Nat} {l : List UInt32} {e : Int} (hn : n ≤ 1000) (hb : b ≤ 100000) (h : l.length ≤ n ∧ -(b : Int) ≤ e ∧ e ≤ b) : DyR (.agg [.bool c, sl l, .int .i64 e]) (dof (zv c l) e) :=
  .mk _ _ _ (by omega) (by omega) (by omega) ((ht_few h).mono (by omega))
theorem RC.cxR {n : Nat} (b : Nat) {B : Int} (hB : B = b) {r : RC} (hn : n ≤ 1000) (hb : b ≤ 100000) (h : r.few n B = true) : CxR (.agg r.cells) r.val := by
  subst hB; exact
  .mk (dyR_few hn hb (RC.few_iff.1 h).1) (dyR_few hn hb (RC.few_iff.1 h).2)
theorem RC.hc {n : Nat} (b k : Nat) {B : Int} (hB : B = b) (hk : 32 * n + b ≤ k) {r : RC} (h : r.few n B = true) : Hc k r.val := by
  subst hB; refine Hc.mono ?_ hk; exact ⟨ht_few (RC.few_iff.1 h).1, ht_few (RC.few_iff.1 h).2⟩
/-- A point as it must lie in a row. -/
def RC.of (z : Cq) : RC := ⟨zneg (dman z.1), ofN (dman z.1).natAbs, dexp z.1, zneg (dman z.2), ofN (dman z.2).natAbs, dexp z.2⟩
theorem RC.of_val (z : Cq) : (RC.of z).val = z := by
  unfold RC.of RC.val; simp only [zv_self, dof_self]
theorem RC.of_cells (z : Cq) : D.agg (RC.of z).cells = cxD z := rfl
end Go.Ev
