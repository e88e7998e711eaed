/- Contracts of the given functions, on data. Conditions stand in each theorem. -/
import Derived.Test.YtagjickjfjgfpaaGreatDoorGEvQ
import Derived.ScopeJumps
set_option linter.unusedSimpArgs false
set_option linter.unusedVariables false
namespace Go.Ev
open Go
section
variable {P : Program} {G : Glob} {T : Tab}
/-- A scope with one label: the way to the label, and from the label on. -/
theorem wp_scope (hT : TabOk P T) {c rest : Code} {Q : Exit → St → Prop} {n : Nat} {env : List (Nat × A)} {heap : Hp} (l : Nat) (hl : findLabel c l = some rest) (L ks : List Nat) (I : Nat → List A → Hp → Prop)
    (h1 : awp P G T c (fun e σ' => match e with | .goto l' => Cd (l' = l) (LoopAt I L ks σ') | e => Q e σ') ⟨n, env, heap⟩)
    (h2 : ∀ m xs h, I m xs h → awp P G T rest (fun e σ' => match e with | .goto l' => Cd (l' = l) (LoopEnd I m L ks σ') | e => Q e σ') ⟨n, L.zip xs, h⟩) : Wp' P G (.scope c) Q ⟨n, env, heap⟩ := by
  intro w0 M S0 a w β S hr b k cs
  have hg : gotoIn l (.inScope c :: k) = some (.code rest :: .inScope c :: k) := by simp [gotoIn, hl]
  have key : ∀ m a w xs hh β S, I m xs hh → Rel G w0 M S0 (St.at n L xs hh) a w β S →
      ∃ e a' w', Post G w0 M S0 n (Q e) a' w' ∧ Arrives P (lone (b.at a (.code rest :: .inScope c :: k)) cs w) b k cs e a' w' := by
    intro m
    induction m using Nat.strongRecOn with
    | _ m ih =>
      intro a w xs hh β S hI hr
      obtain ⟨e, a₁, w₁, ⟨σ', β', S', hq, hr', hn⟩, harr⟩ := awp_sound hT rest _ _ (h2 m xs hh hI) w0 M S0 a w β S hr b (.inScope c :: k) cs
      cases e with
      | normal => exact ⟨.normal, a₁, w₁, ⟨σ', β', S', hq, hr', hn⟩, Steps.trans harr (.one step_inScope)⟩
      | exit id => exact ⟨.exit id, a₁, w₁, ⟨σ', β', S', hq, hr', hn⟩, fun k' hk => harr k' (by simp [exitTo, hk])⟩
      | goto l' =>
        obtain ⟨rfl, m', xs', h', hcut', hlt, hI'⟩ := hq
        have hr2 := hr'.cut hcut'
        rw [hn] at hr2
        obtain ⟨e₂, a₂, w₂, hq₂, harr₂⟩ := ih m' hlt a₁ w₁ xs' h' _ S' hI' hr2
        exact ⟨e₂, a₂, w₂, hq₂, .of_steps (harr _ hg) harr₂⟩
      | ret => exact ⟨_, a₁, w₁, ⟨σ', β', S', hq, hr', hn⟩, harr⟩
      | panic ch => exact ⟨_, a₁, w₁, ⟨σ', β', S', hq, hr', hn⟩, harr⟩
      | outgrown => exact ⟨_, a₁, w₁, ⟨σ', β', S', hq, hr', hn⟩, harr⟩
  obtain ⟨e, a₁, w₁, ⟨σ', β', S', hq, hr', hn⟩, harr⟩ := awp_sound hT c _ _ h1 w0 M S0 a w β S hr b (.inScope c :: k) cs
  cases e with
  | normal => exact ⟨.normal, a₁, w₁, ⟨σ', β', S', hq, hr', hn⟩, .head step_scope (Steps.trans harr (.one step_inScope))⟩
  | exit id => exact ⟨.exit id, a₁, w₁, ⟨σ', β', S', hq, hr', hn⟩, fun k' hk => .head step_scope (harr k' (by simp [exitTo, hk]))⟩
  | goto l' =>
    obtain ⟨rfl, m, xs, hh, hcut, hI⟩ := hq
    have hr2 := hr'.cut hcut
    rw [hn] at hr2
    obtain ⟨e₂, a₂, w₂, hq₂, harr₂⟩ := key m a₁ w₁ xs hh _ S' hI hr2
    exact ⟨e₂, a₂, w₂, hq₂, .of_steps (.head step_scope (harr _ hg)) harr₂⟩
  | ret => exact ⟨_, a₁, w₁, ⟨σ', β', S', hq, hr', hn⟩, .of_steps (.one step_scope) harr⟩
  | panic ch => exact ⟨_, a₁, w₁, ⟨σ', β', S', hq, hr', hn⟩, .of_steps (.one step_scope) harr⟩
  | outgrown => exact ⟨_, a₁, w₁, ⟨σ', β', S', hq, hr', hn⟩, .of_steps (.one step_scope) harr⟩
/-- A scope through which the run goes straight. -/
theorem wp_scope0 (hT : TabOk P T) {c : Code} {Q : Exit → St → Prop} {n : Nat} {env : List (Nat × A)} {heap : Hp}
    (h1 : awp P G T c (fun e σ' => match e with | .goto l' => False | e => Q e σ') ⟨n, env, heap⟩) : Wp' P G (.scope c) Q ⟨n, env, heap⟩ := by
  intro w0 M S0 a w β S hr
  refine wp_scope_straight (wp_mono (awp_sound hT c _ _ h1 w0 M S0 a w β S hr) ?_)
  rintro e a' w' ⟨σ', β', S', hq, hr', hn⟩
  cases e with
  | goto l => exact hq.elim
  | _ => exact ⟨σ', β', S', hq, hr', hn⟩
end
end Go.Ev

namespace Go.Ev
open Go

theorem wrap_in {n : Int} (h0 : -9223372036854775808 ≤ n) (h1 : n ≤ 9223372036854775807) : IntKind.i64.wrap n = n := by
  have e : IntKind.i64.wrap n = if (true && decide (n % 2 ^ 64 ≥ 2 ^ 63)) = true then n % 2 ^ 64 - 2 ^ 64 else n % 2 ^ 64 := rfl
  rw [e]
  by_cases h : n % 2 ^ 64 ≥ 2 ^ 63
  · rw [if_pos (by simpa using h)]; omega
  · rw [if_neg (by simpa using h)]; omega
theorem wrap_u64 {n : Int} (h0 : 0 ≤ n) (h1 : n < 18446744073709551616) : IntKind.u64.wrap n = n := by
  have e : IntKind.u64.wrap n = if (false && decide (n % 2 ^ 64 ≥ 2 ^ 63)) = true then n % 2 ^ 64 - 2 ^ 64 else n % 2 ^ 64 := rfl
  rw [e, if_neg (by simp)]
  omega
theorem wrap_u32 (n : Int) : IntKind.u32.wrap n = n % 4294967296 := by
  have e : IntKind.u32.wrap n = if (false && decide (n % 2 ^ 32 ≥ 2 ^ 31)) = true then n % 2 ^ 32 - 2 ^ 32 else n % 2 ^ 32 := rfl
  rw [e, if_neg (by simp)]
  rfl
/-- Limbs, as cells. -/
def limbs (l : List UInt32) : List D := l.map fun x => .int .u32 x.toNat
/-- A slice of limbs. -/
def sl (l : List UInt32) : D := .slice l.length (limbs l)

@[simp] theorem length_limbs (l : List UInt32) : (limbs l).length = l.length := by simp [limbs]
theorem limbs_get (l : List UInt32) (i : Nat) (h : i < l.length) : (limbs l)[i]? = some (.int .u32 (l.getD i 0).toNat) := by
  simp [limbs, h]
theorem limbs_drop (l : List UInt32) (i : Nat) (h : i < l.length) : ((limbs l).drop (i * 1))[0]? = some (.int .u32 (l.getD i 0).toNat) := by
  simp [limbs, h]
theorem limbs_getA (l : List UInt32) (i : Nat) (h : i < l.length) : ((limbs l).map A.d)[i]? = some (.d (.int .u32 (l.getD i 0).toNat)) := by
  simp [limbs, h]
theorem sl_slice (l : List UInt32) (a b : Int) (h0 : 0 ≤ a) (h1 : a ≤ b) (h2 : b ≤ l.length) :
    D.slice (b - a).toNat (((limbs l).drop (a.toNat * 1)).take ((b - a).toNat * 1)) = sl ((l.drop a.toNat).take (b - a).toNat) := by
  unfold sl limbs
  rw [Nat.mul_one, Nat.mul_one, List.map_take, List.map_drop]
  congr 1
  simp; omega
end Go.Ev

namespace Go.Ev
open Go

/-- Powers of a limb. -/
def Pw (k : Nat) : Nat := 4294967296 ^ k
theorem Pw_zero : Pw 0 = 1 := rfl
theorem Pw_succ (k : Nat) : Pw (k + 1) = 4294967296 * Pw k := by unfold Pw; rw [Nat.pow_succ, Nat.mul_comm]
theorem Pw_add (a b : Nat) : Pw (a + b) = Pw a * Pw b := Nat.pow_add _ _ _
theorem Pw_pos (k : Nat) : 0 < Pw k := Nat.pow_pos (by decide)
theorem Pw_two (k : Nat) : Pw k = 2 ^ (32 * k) := by unfold Pw; rw [Nat.pow_mul]
theorem Pw_mono {a b : Nat} (h : a ≤ b) : Pw a ≤ Pw b := Nat.pow_le_pow_right (by decide) h
theorem Pw_lt {a b : Nat} (h : a < b) : Pw a < Pw b := Nat.pow_lt_pow_right (by decide) h

theorem u32_lt (x : UInt32) : x.toNat < 4294967296 := x.toNat_lt
/-- A row's number. -/
def nv : List UInt32 → Nat
  | [] => 0
  | x :: l => x.toNat + 4294967296 * nv l
@[simp] theorem nv_nil : nv [] = 0 := rfl
theorem nv_cons (x : UInt32) (l : List UInt32) : nv (x :: l) = x.toNat + 4294967296 * nv l := rfl
theorem nv_lt : ∀ l : List UInt32, nv l < Pw l.length
  | [] => by simp [Pw]
  | x :: l => by
    have := nv_lt l
    have := u32_lt x
    rw [nv_cons, List.length_cons, Pw_succ]; omega
theorem nv_append : ∀ a b : List UInt32, nv (a ++ b) = nv a + Pw a.length * nv b
  | [], b => by simp [Pw]
  | x :: a, b => by
    rw [List.cons_append, nv_cons, nv_cons, nv_append a b, List.length_cons, Pw_succ, Nat.mul_add, Nat.mul_assoc]; omega
theorem nv_replicate : ∀ n : Nat, nv (List.replicate n 0) = 0
  | 0 => rfl
  | n + 1 => by rw [List.replicate_succ, nv_cons, nv_replicate n]; rfl
theorem nv_take_drop (l : List UInt32) (i : Nat) (h : i ≤ l.length) : nv l = nv (l.take i) + Pw i * nv (l.drop i) := by
  have := nv_append (l.take i) (l.drop i)
  rw [List.take_append_drop, List.length_take, Nat.min_eq_left h] at this
  exact this
theorem nv_set : ∀ (l : List UInt32) (i : Nat) (v : UInt32), i < l.length → nv (l.set i v) + Pw i * (l.getD i 0).toNat = nv l + Pw i * v.toNat
  | [], i, v, h => by simp at h
  | x :: l, 0, v, h => by simp [nv_cons, Pw]; omega
  | x :: l, i + 1, v, h => by
    have := nv_set l i v (by simpa using h)
    simp only [List.set_cons_succ, nv_cons, List.getD_cons_succ, Pw_succ, Nat.mul_assoc]; omega
theorem nv_take_succ (l : List UInt32) (i : Nat) (h : i < l.length) : nv (l.take (i + 1)) = nv (l.take i) + Pw i * (l.getD i 0).toNat := by
  rw [List.take_succ_eq_append_getElem h, nv_append, List.length_take, Nat.min_eq_left (by omega)]
  simp [nv_cons, h]
theorem nv_drop (l : List UInt32) (i : Nat) (h : i < l.length) : nv (l.drop i) = (l.getD i 0).toNat + 4294967296 * nv (l.drop (i + 1)) := by
  rw [List.drop_eq_getElem_cons h, nv_cons]
  simp [h]
theorem nv_drop_div (l : List UInt32) (i : Nat) : nv (l.drop i) = nv l / Pw i := by
  by_cases h : i ≤ l.length
  · have h1 := nv_take_drop l i h
    have h2 := nv_lt (l.take i)
    rw [List.length_take, Nat.min_eq_left h] at h2
    rw [h1, Nat.add_mul_div_left _ _ (Pw_pos i), Nat.div_eq_of_lt h2, Nat.zero_add]
  · rw [List.drop_eq_nil_of_le (by omega), nv_nil, Nat.div_eq_of_lt]
    exact Nat.lt_of_lt_of_le (nv_lt l) (Pw_mono (by omega))
theorem nv_take_mod (l : List UInt32) (i : Nat) : nv (l.take i) = nv l % Pw i := by
  by_cases h : i ≤ l.length
  · have h1 := nv_take_drop l i h
    have h2 := nv_lt (l.take i)
    rw [List.length_take, Nat.min_eq_left h] at h2
    rw [h1, Nat.add_mul_mod_self_left, Nat.mod_eq_of_lt h2]
  · rw [List.take_of_length_le (by omega), Nat.mod_eq_of_lt]
    exact Nat.lt_of_lt_of_le (nv_lt l) (Pw_mono (by omega))
theorem nv_getD (l : List UInt32) (i : Nat) : (l.getD i 0).toNat = nv l / Pw i % 4294967296 := by
  rw [← nv_drop_div]
  by_cases h : i < l.length
  · rw [nv_drop l i h, Nat.add_mul_mod_self_left, Nat.mod_eq_of_lt (u32_lt _)]
  · rw [List.drop_eq_nil_of_le (by omega)]
    simp [List.getD, List.getElem?_eq_none (Nat.le_of_not_lt h)]

/-- A number's row, without noughts on top. -/
def ofN (n : Nat) : List UInt32 := if h : n = 0 then [] else UInt32.ofNat n :: ofN (n / 4294967296)
termination_by n
decreasing_by omega
theorem ofN_zero : ofN 0 = [] := by rw [ofN]; rfl
theorem ofN_pos {n : Nat} (h : n ≠ 0) : ofN n = UInt32.ofNat n :: ofN (n / 4294967296) := by rw [ofN, dif_neg h]
@[simp] theorem nv_ofN (n : Nat) : nv (ofN n) = n := by
  induction n using Nat.strongRecOn with
  | _ n ih =>
    by_cases h : n = 0
    · rw [h, ofN_zero]; rfl
    · rw [ofN_pos h, nv_cons, ih _ (by omega), UInt32.toNat_ofNat']; omega
theorem ofN_cons (x : UInt32) (n : Nat) (h : x.toNat + 4294967296 * n ≠ 0) : ofN (x.toNat + 4294967296 * n) = x :: ofN n := by
  have := u32_lt x
  rw [ofN_pos h]
  congr 1
  · apply UInt32.toNat_inj.1; rw [UInt32.toNat_ofNat']; omega
  · congr 1; omega
/-- Without noughts on top. -/
def cutOk (l : List UInt32) : Bool := l.getLast? != some 0
theorem cutOk_ofN (n : Nat) : cutOk (ofN n) = true := by
  induction n using Nat.strongRecOn with
  | _ n ih =>
    by_cases h : n = 0
    · rw [h, ofN_zero]; rfl
    · rw [ofN_pos h]
      by_cases h2 : n / 4294967296 = 0
      · rw [h2, ofN_zero]
        simp only [cutOk, List.getLast?_singleton, bne_iff_ne, ne_eq, Option.some.injEq]
        intro e
        have := congrArg UInt32.toNat e
        rw [UInt32.toNat_ofNat'] at this
        simp at this; omega
      · have := ih _ (show n / 4294967296 < n by omega)
        rw [ofN_pos h2] at this ⊢
        simpa [cutOk, List.getLast?_cons_cons] using this
theorem ofN_nv : ∀ {l : List UInt32}, cutOk l = true → ofN (nv l) = l
  | [], _ => ofN_zero
  | [x], h => by
    rw [nv_cons, nv_nil, ofN_cons _ _ ?_, ofN_zero]
    intro e
    have : x = 0 := UInt32.toNat_inj.1 (by simp at e ⊢; omega)
    simp [cutOk, this] at h
  | x :: y :: l, h => by
    have ih := ofN_nv (l := y :: l) (by simpa [cutOk, List.getLast?_cons_cons] using h)
    rw [nv_cons, ofN_cons _ _ ?_, ih]
    intro e
    have e : nv (y :: l) = 0 := by omega
    rw [e, ofN_zero] at ih
    cases ih
theorem ofN_ne_nil {n : Nat} (h : n ≠ 0) : ofN n ≠ [] := by rw [ofN_pos h]; simp
theorem ofN_eq_nil {n : Nat} : ofN n = [] ↔ n = 0 := ⟨fun h => by have := nv_ofN n; rw [h] at this; exact this.symm, fun h => by rw [h, ofN_zero]⟩
theorem ofN_len_zero {n : Nat} : (ofN n).length = 0 ↔ n = 0 := by rw [List.length_eq_zero_iff, ofN_eq_nil]
theorem ofN_inj {a b : Nat} (h : ofN a = ofN b) : a = b := by have := congrArg nv h; simpa using this
theorem nv_ge {l : List UInt32} (h : cutOk l = true) (hl : l ≠ []) : Pw (l.length - 1) ≤ nv l := by
  obtain ⟨a, x, rfl⟩ : ∃ a x, l = a ++ [x] := ⟨l.dropLast, l.getLast hl, (List.dropLast_concat_getLast hl).symm⟩
  have hx : x ≠ 0 := by simpa [cutOk] using h
  have hx : x.toNat ≠ 0 := fun e => hx (UInt32.toNat_inj.1 (by simpa using e))
  rw [nv_append, List.length_append]
  simp only [List.length_cons, List.length_nil, Nat.zero_add, Nat.add_sub_cancel, nv_cons, nv_nil, Nat.mul_zero, Nat.add_zero]
  have := Nat.mul_le_mul_left (Pw a.length) (show 1 ≤ x.toNat by omega)
  omega
theorem ofN_len_le {n k : Nat} : (ofN n).length ≤ k ↔ n < Pw k := by
  constructor
  · intro h
    have := nv_lt (ofN n)
    rw [nv_ofN] at this
    exact Nat.lt_of_lt_of_le this (Pw_mono h)
  · intro h
    by_cases e : n = 0
    · rw [e, ofN_zero]; simp
    · have h1 := nv_ge (cutOk_ofN n) (ofN_ne_nil e)
      rw [nv_ofN] at h1
      have h2 : Pw ((ofN n).length - 1) < Pw k := by omega
      by_cases h3 : (ofN n).length ≤ k
      · exact h3
      · have := Pw_mono (show k ≤ (ofN n).length - 1 by omega); omega
theorem ofN_len_nv (l : List UInt32) : (ofN (nv l)).length ≤ l.length := ofN_len_le.2 (nv_lt l)
/-- One nought on top is taken away. -/
theorem nv_dropTop {l : List UInt32} (h : l ≠ []) (h0 : (l.getD (l.length - 1) 0).toNat = 0) : nv (l.take (l.length - 1)) = nv l := by
  have hp : 0 < l.length := by cases l with | nil => exact absurd rfl h | cons _ _ => simp
  have := nv_take_succ l (l.length - 1) (by omega)
  rw [Nat.sub_add_cancel hp, List.take_length, h0] at this
  omega
theorem cutOk_iff (l : List UInt32) : cutOk l = true ↔ l = [] ∨ (l.getD (l.length - 1) 0).toNat ≠ 0 := by
  cases l with
  | nil => simp [cutOk]
  | cons x l =>
    have e : (x :: l).getLast? = some ((x :: l).getD ((x :: l).length - 1) 0) := by
      rw [List.getLast?_eq_getElem?, List.getD_eq_getElem?_getD]
      simp
    rw [cutOk, e]
    simp only [bne_iff_ne, ne_eq, Option.some.injEq, reduceCtorEq, false_or]
    exact not_congr (by rw [← UInt32.toNat_inj]; rfl)
theorem ofN_of {l : List UInt32} (h : l = [] ∨ (l.getD (l.length - 1) 0).toNat ≠ 0) : ofN (nv l) = l := ofN_nv ((cutOk_iff l).2 h)
/-- The lesser length, the lesser number. -/
theorem ofN_len_lt {a b : Nat} (h : (ofN a).length < (ofN b).length) : a < b := by
  have h1 := nv_lt (ofN a)
  rw [nv_ofN] at h1
  by_cases e : b = 0
  · rw [e, ofN_zero] at h; simp at h
  · have h2 := nv_ge (cutOk_ofN b) (ofN_ne_nil e)
    rw [nv_ofN] at h2
    have := Pw_mono (show (ofN a).length ≤ (ofN b).length - 1 by omega)
    omega
end Go.Ev

namespace Go.Ev
open Go

/-- Own cells of limbs. -/
def la (l : List UInt32) : List A := (limbs l).map A.d
theorem la_nil : la [] = [] := rfl
@[simp] theorem length_la (l : List UInt32) : (la l).length = l.length := by simp [la]
theorem la_get (l : List UInt32) (i j : Nat) (e : i = j) (h : j < l.length) : (la l)[i]? = some (.d (.int .u32 (l.getD j 0).toNat)) := by
  subst e; exact limbs_getA l i h
theorem la_rep (n : Nat) : repA n (zeros [ZK.int .u32]) = la (List.replicate n 0) := by
  induction n with
  | zero => rfl
  | succ n ih =>
    unfold repA at ih ⊢
    rw [List.replicate_succ, List.flatten_cons, ih]
    rfl
theorem la_set (l : List UInt32) (o j : Nat) (v : Int) (e : o = j) (hj : j < l.length) (h0 : 0 ≤ v) (h1 : v < 4294967296) :
    setAt (la l) o (A.cells (.d (.int .u32 v))) = la (l.set j (UInt32.ofNat v.toNat)) := by
  subst e
  have ev : ((UInt32.ofNat v.toNat).toNat : Int) = v := by rw [UInt32.toNat_ofNat']; omega
  have e2 : limbs (l.set o (UInt32.ofNat v.toNat)) = (limbs l).set o (.int .u32 v) := by
    unfold limbs; rw [List.map_set, ev]
  unfold la
  rw [e2, List.map_set]
  rfl
theorem sl_own (l : List UInt32) (n o m : Nat) (hn : n = l.length) (ho : o = 0) (hm : m = n * 1) : D.slice n (((limbs l).drop o).take m) = sl l := by
  subst hn; subst ho; subst hm
  unfold sl
  rw [List.drop_zero, List.take_of_length_le (by simp)]
theorem sl_own' (l : List UInt32) (n o m : Nat) (ho : o + n ≤ l.length) (hm : m = n) : D.slice n (((limbs l).drop o).take m) = sl ((l.drop o).take n) := by
  subst hm
  unfold sl limbs
  rw [← List.map_drop, ← List.map_take]
  congr 1
  simp; omega
theorem LoopEnd.go {I : Nat → List A → List (Nat × Bool × List A) → Prop} {m : Nat} {L ks : List Nat} {σ' : St} (xs' : List A) (h' : List (Nat × Bool × List A)) (cut : σ'.cut L ks xs' h') (inv : ∃ m', I m' xs' h' ∧ m' < m) : LoopEnd I m L ks σ' :=
  inv.elim fun m' h => ⟨m', xs', h', cut, h.2, h.1⟩
theorem wrap_u64_u32 (x : UInt32) : IntKind.u64.wrap x.toNat = (x.toNat : Int) := wrap_u64 (by omega) (by have := u32_lt x; omega)
/- words on natural numbers -/
theorem n_add (x y : Nat) (h : x + y < 18446744073709551616) : IntKind.u64.wrap (↑x + ↑y) = ((x + y : Nat) : Int) := by rw [wrap_u64 (by omega) (by omega)]; omega
theorem n_mul (x y : Nat) (h : x * y < 18446744073709551616) : IntKind.u64.wrap (↑x * ↑y) = ((x * y : Nat) : Int) := by
  rw [← Int.natCast_mul, wrap_u64 (by omega) (by omega)]
theorem n_sub (x y : Nat) (hx : x < 18446744073709551616) (hy : y ≤ 18446744073709551616) : IntKind.u64.wrap (↑x - ↑y) = (((x + 18446744073709551616 - y) % 18446744073709551616 : Nat) : Int) := by
  have e : IntKind.u64.wrap (↑x - ↑y) = if (false && decide (((x : Int) - y) % 2 ^ 64 ≥ 2 ^ 63)) = true then ((x : Int) - y) % 2 ^ 64 - 2 ^ 64 else ((x : Int) - y) % 2 ^ 64 := rfl
  rw [e, if_neg (by simp)]
  omega
theorem n_shr (x k : Nat) (e : Int) (b : Nat) (he : (2 : Int) ^ min e.toNat b = ((k : Nat) : Int)) : (x : Int).fdiv (2 ^ min e.toNat b) = ((x / k : Nat) : Int) := by
  rw [he, Int.fdiv_eq_ediv_of_nonneg _ (by omega)]; rfl
theorem n_shr63 (x : Nat) : (x : Int).fdiv (2 ^ min (Int.toNat 63) IntKind.u64.bits) = ((x / 9223372036854775808 : Nat) : Int) := n_shr x 9223372036854775808 63 64 (by decide)
theorem n_u32 (x : Nat) : IntKind.u32.wrap x = ((x % 4294967296 : Nat) : Int) := by rw [wrap_u32]; omega
theorem n_u64 (x : Nat) (h : x < 18446744073709551616) : IntKind.u64.wrap x = ((x : Nat) : Int) := wrap_u64 (by omega) (by omega)
theorem n_i64 (x : Nat) (h : x < 9223372036854775808) : IntKind.i64.wrap x = (x : Int) := wrap_in (by omega) (by omega)
theorem n_succ (x : Nat) (h : x < 9223372036854775807) : IntKind.i64.wrap (↑x + 1) = ((x + 1 : Nat) : Int) := by rw [wrap_in (by omega) (by omega)]; omega
theorem n_iadd (x y : Nat) (h : x + y < 9223372036854775808) : IntKind.i64.wrap (↑x + ↑y) = ((x + y : Nat) : Int) := by rw [wrap_in (by omega) (by omega)]; omega
theorem la_setN (l : List UInt32) (o j v : Nat) (e : o = j) (hj : j < l.length) (h1 : v < 4294967296) :
    setAt (la l) o (A.cells (.d (.int .u32 v))) = la (l.set j (UInt32.ofNat v)) := by
  have := la_set l o j v e hj (by omega) (by omega)
  rwa [Int.toNat_natCast] at this
theorem toNat_ofNat {v : Nat} (h : v < 4294967296) : (UInt32.ofNat v).toNat = v := by rw [UInt32.toNat_ofNat']; omega
theorem limb_step (p v : Nat) : p * (v % 4294967296) + 4294967296 * p * (v / 4294967296) = p * v := by
  rw [Nat.mul_comm 4294967296 p, Nat.mul_assoc, ← Nat.mul_add]; congr 1; omega
theorem getD_big {l : List UInt32} {i : Nat} (h : l.length ≤ i) : (l.getD i 0).toNat = 0 := by simp [List.getD, List.getElem?_eq_none h]
theorem nv_take_succ' (l : List UInt32) (i : Nat) : nv (l.take (i + 1)) = nv (l.take i) + Pw i * (l.getD i 0).toNat := by
  by_cases h : i < l.length
  · exact nv_take_succ l i h
  · rw [getD_big (by omega), List.take_of_length_le (by omega), List.take_of_length_le (by omega)]; rfl
theorem nv_set0 {l : List UInt32} {i v : Nat} (h : i < l.length) (h0 : (l.getD i 0).toNat = 0) (hv : v < 4294967296) : nv (l.set i (UInt32.ofNat v)) = nv l + Pw i * v := by
  have := nv_set l i (UInt32.ofNat v) h
  rw [h0, toNat_ofNat hv] at this
  omega
theorem getD_set_ne {l : List UInt32} {i j : Nat} {v : UInt32} (h : i ≠ j) : ((l.set i v).getD j 0) = l.getD j 0 := by
  simp [List.getD, List.getElem?_set, h]
theorem getD_rep (n j : Nat) : ((List.replicate n (0 : UInt32)).getD j 0).toNat = 0 := by
  rw [nv_getD, nv_replicate, Nat.zero_div]
theorem max_eq (x y : Int) : (if true = true then (if y > x then y else x) else (if y < x then y else x)) = max x y := by
  rw [if_pos rfl]; omega
theorem max_nat (x y : Nat) : (if true = true then (if (y : Int) > x then (y : Int) else x) else (if (y : Int) < x then (y : Int) else x)) = ((max x y : Nat) : Int) := by
  rw [if_pos rfl]; omega
theorem min_eq (x y : Int) : (if false = true then (if y > x then y else x) else (if y < x then y else x)) = min x y := by
  rw [if_neg (by decide)]; omega
theorem all_nil (ks : List Nat) : List.all ([] : List (Nat × Bool × List A)) (fun x => A.refsIns ks x.2.2) = true := rfl
theorem all_la (ks : List Nat) (k : Nat) (f : Bool) (l : List UInt32) (h : List (Nat × Bool × List A)) (H : h.all (fun x => A.refsIns ks x.2.2) = true) : List.all ((k, f, la l) :: h) (fun x => A.refsIns ks x.2.2) = true := by
  rw [List.all_cons, H, la, A.refsIns_map]; rfl
theorem own_ix (i : Nat) : 0 + (i : Int).toNat * 1 = i := by simp
theorem own_ixI (x : Int) : 0 + x.toNat * 1 = x.toNat := by simp
theorem limbs_dropN (l : List UInt32) (i : Nat) (h : i < l.length) : ((limbs l).drop ((i : Int).toNat * 1))[0]? = some (.int .u32 (l.getD i 0).toNat) := by
  rw [Int.toNat_natCast]; exact limbs_drop l i h
theorem EqE.idW {k : IntKind} {n : Int} {K : Int → Prop} (h : EqE (IntKind.wrap k n) K) : EqE (IntKind.wrap k n) K := h
theorem EqE.idS {l : List A} {o : Nat} {c : List A} {K : List A → Prop} (h : EqE (setAt l o c) K) : EqE (setAt l o c) K := h
theorem EqE.idR {l : List A} {n : Nat} {K : List A → Prop} (h : EqE (repA n l) K) : EqE (repA n l) K := h
theorem EqE.idI {c : Bool} {x y : Int} {K : Int → Prop} (h : EqE (if c = true then (if y > x then y else x) else (if y < x then y else x)) K) : EqE (if c = true then (if y > x then y else x) else (if y < x then y else x)) K := h
theorem EqE.idL {n : Nat} {l : List D} {K : D → Prop} (h : EqE (D.slice n l) K) : EqE (D.slice n l) K := h
theorem EqE.idF {x y : Int} {K : Int → Prop} (h : EqE (Int.fdiv x y) K) : EqE (Int.fdiv x y) K := h
theorem EqE.idA {a b : List A} {K : List A → Prop} (h : EqE (a ++ b) K) : EqE (a ++ b) K := h
theorem la_app (a b : List UInt32) : la a ++ (limbs b).map A.d = la (a ++ b) := by simp [la, limbs]
theorem la_app0 (b : List UInt32) : [] ++ (limbs b).map A.d = la b := rfl
/-- How many bits. -/
def nb (n : Nat) : Nat := if n = 0 then 0 else n.log2 + 1
theorem nb_le {n k : Nat} : nb n ≤ k ↔ n < 2 ^ k := by
  unfold nb
  split
  · rename_i h; subst h; exact ⟨fun _ => Nat.two_pow_pos k, fun _ => Nat.zero_le _⟩
  · rename_i h; rw [← Nat.log2_lt h]; omega
theorem nb_zero : nb 0 = 0 := rfl
theorem nb_lt (n : Nat) : n < 2 ^ nb n := nb_le.1 (Nat.le_refl _)
theorem nb_ge {n : Nat} (h : n ≠ 0) : 2 ^ (nb n - 1) ≤ n := by
  have h1 : ¬ nb n ≤ nb n - 1 := by unfold nb; rw [if_neg h]; omega
  rw [nb_le] at h1; omega
theorem nb_eq {n k : Nat} (h1 : 2 ^ k ≤ n) (h2 : n < 2 ^ (k + 1)) : nb n = k + 1 := by
  have h3 := nb_le.2 h2
  have h4 : ¬ nb n ≤ k := by rw [nb_le]; omega
  omega
theorem nb_div {n k : Nat} (h : 2 ^ k ≤ n) : nb n = k + nb (n / 2 ^ k) := by
  have h0 : n / 2 ^ k ≠ 0 := by
    exact Nat.ne_of_gt (Nat.div_pos h (Nat.two_pow_pos k))
  have h1 := nb_ge h0
  have h2 := nb_lt (n / 2 ^ k)
  have hp : nb (n / 2 ^ k) ≠ 0 := by
    intro e; rw [e] at h2; exact h0 (Nat.lt_one_iff.1 h2)
  have h3 : 2 ^ (k + (nb (n / 2 ^ k) - 1)) ≤ n := by
    rw [Nat.pow_add]
    exact Nat.le_trans (Nat.mul_le_mul_left _ h1) (Nat.mul_div_le _ _)
  have h4 : n < 2 ^ (k + nb (n / 2 ^ k)) := by
    rw [Nat.pow_add]
    have := Nat.lt_mul_div_succ n (Nat.two_pow_pos k)
    exact Nat.lt_of_lt_of_le this (Nat.mul_le_mul_left _ h2)
  have := nb_eq (k := k + (nb (n / 2 ^ k) - 1)) h3 (by rw [show k + (nb (n / 2 ^ k) - 1) + 1 = k + nb (n / 2 ^ k) by omega]; exact h4)
  omega
theorem limbs_one (l : List UInt32) : ∀ c ∈ limbs l, (A.d c).one = true := by
  intro c hc
  simp only [limbs, List.mem_map] at hc
  obtain ⟨x, _, rfl⟩ := hc
  rfl
theorem n_u8 (x : Nat) : IntKind.u8.wrap x = ((x % 256 : Nat) : Int) := by
  have e : IntKind.u8.wrap x = if (false && decide ((x : Int) % 2 ^ 8 ≥ 2 ^ 7)) = true then (x : Int) % 2 ^ 8 - 2 ^ 8 else (x : Int) % 2 ^ 8 := rfl
  rw [e, if_neg (by simp)]
  omega
theorem EqE.idB {x : UInt8} {K : Int → Prop} (h : EqE (((x.toNat : Nat) : Int)) K) : EqE (((x.toNat : Nat) : Int)) K := h
theorem str_ix {n : Nat} {i : Int} (k : Nat) (h : (n == k) = true) (hi : 0 ≤ i ∧ i < k) : 0 ≤ i ∧ i < n := by
  simp only [beq_iff_eq] at h; subst h; exact hi
theorem tab_get {l : List UInt8} {i : Int} (f : Nat → Nat) (k : Nat) (j : Nat) (h : ((List.range k).all fun i => (nth 0 l i).toNat == f i) = true) (hi : i = j) (hk : j < k) : (((nth 0 l i.toNat).toNat : Nat) : Int) = ((f j : Nat) : Int) := by
  subst hi
  rw [List.all_eq_true] at h
  have := h j (by simpa using hk)
  simp only [beq_iff_eq] at this
  rw [Int.toNat_natCast, this]
theorem nb_top {n : Nat} (h : n ≠ 0) : nb n = 32 * ((ofN n).length - 1) + nb ((ofN n).getD ((ofN n).length - 1) 0).toNat := by
  have h1 := nv_ge (cutOk_ofN n) (ofN_ne_nil h)
  rw [nv_ofN, Pw_two] at h1
  rw [nb_div h1, nv_getD, nv_ofN, Pw_two]
  congr 1
  have h2 := nv_lt (ofN n)
  rw [nv_ofN, Pw_two] at h2
  have hl : (ofN n).length ≠ 0 := fun e => ofN_ne_nil h (List.eq_nil_of_length_eq_zero e)
  rw [Nat.mod_eq_of_lt]
  rw [Nat.div_lt_iff_lt_mul (Nat.two_pow_pos _)]
  have : 2 ^ (32 * (ofN n).length) = 4294967296 * 2 ^ (32 * ((ofN n).length - 1)) := by
    rw [show 32 * (ofN n).length = 32 + 32 * ((ofN n).length - 1) by omega, Nat.pow_add]
  omega
theorem lt_of_drop {a b : List UInt32} (j : Nat) (h : nv (a.drop j) < nv (b.drop j)) : nv a < nv b := by
  rw [nv_drop_div, nv_drop_div] at h
  exact Nat.lt_of_not_le fun h' => absurd (Nat.div_le_div_right (c := Pw j) h') (by omega)
/-- The sign of a comparison. -/
def cmpN (a b : Nat) : Int := if a < b then -1 else if a = b then 0 else 1
theorem cmpN_lt {a b : Nat} (h : a < b) : cmpN a b = -1 := by unfold cmpN; rw [if_pos h]
theorem cmpN_gt {a b : Nat} (h : b < a) : cmpN a b = 1 := by unfold cmpN; rw [if_neg (by omega), if_neg (by omega)]
theorem cmpN_eq {a b : Nat} (h : a = b) : cmpN a b = 0 := by unfold cmpN; rw [if_neg (by omega), if_pos h]
theorem n_and (x y : Nat) (hx : x < 18446744073709551616) (hy : y < 18446744073709551616) : IntKind.u64.wrap (BitVec.ofInt IntKind.u64.bits x &&& BitVec.ofInt IntKind.u64.bits y).toNat = ((x &&& y : Nat) : Int) := by
  have h : x &&& y ≤ x := Nat.and_le_left
  have e : ∀ z : Nat, z < 18446744073709551616 → (BitVec.ofInt 64 (z : Int)).toNat = z := by
    intro z hz; rw [BitVec.toNat_ofInt]; omega
  show IntKind.u64.wrap ((BitVec.ofInt 64 (x : Int) &&& BitVec.ofInt 64 (y : Int)).toNat : Int) = _
  rw [BitVec.toNat_and, e x hx, e y hy, wrap_u64 (by omega) (by omega)]
theorem n_and1 (x : Nat) (hx : x < 18446744073709551616) : IntKind.u64.wrap (BitVec.ofInt IntKind.u64.bits x &&& BitVec.ofInt IntKind.u64.bits 1).toNat = ((x % 2 : Nat) : Int) := by
  rw [← Nat.and_one_is_mod]; exact n_and x 1 hx (by decide)
theorem n_andm (x : Nat) (hx : x < 18446744073709551616) : IntKind.u64.wrap (BitVec.ofInt IntKind.u64.bits x &&& BitVec.ofInt IntKind.u64.bits 4294967295).toNat = ((x % 4294967296 : Nat) : Int) := by
  rw [show x % 4294967296 = x &&& 4294967295 from (Nat.and_two_pow_sub_one_eq_mod x 32).symm]; exact n_and x 4294967295 hx (by decide)
theorem n_or (x y : Nat) (hx : x < 18446744073709551616) (hy : y < 18446744073709551616) : IntKind.u64.wrap (BitVec.ofInt IntKind.u64.bits x ||| BitVec.ofInt IntKind.u64.bits y).toNat = ((x ||| y : Nat) : Int) := by
  have e : ∀ z : Nat, z < 18446744073709551616 → (BitVec.ofInt 64 (z : Int)).toNat = z := by
    intro z hz; rw [BitVec.toNat_ofInt]; omega
  have h : x ||| y < 2 ^ 64 := Nat.or_lt_two_pow hx hy
  show IntKind.u64.wrap ((BitVec.ofInt 64 (x : Int) ||| BitVec.ofInt 64 (y : Int)).toNat : Int) = _
  rw [BitVec.toNat_or, e x hx, e y hy, wrap_u64 (by omega) (by omega)]
theorem n_shl (x s : Nat) (hs : s ≤ 64) (h : x * 2 ^ s < 18446744073709551616) : IntKind.u64.wrap (↑x * 2 ^ min (s : Int).toNat IntKind.u64.bits) = ((x * 2 ^ s : Nat) : Int) := by
  have e : min (s : Int).toNat IntKind.u64.bits = s := by
    show min (s : Int).toNat 64 = s
    omega
  rw [e, show (x : Int) * 2 ^ s = ((x * 2 ^ s : Nat) : Int) by simp, wrap_u64 (by omega) (by omega)]
theorem n_shrv (x s : Nat) (hs : s ≤ 64) : (x : Int).fdiv (2 ^ min (s : Int).toNat IntKind.u64.bits) = ((x / 2 ^ s : Nat) : Int) := by
  have e : min (s : Int).toNat IntKind.u64.bits = s := by
    show min (s : Int).toNat 64 = s
    omega
  rw [e, Int.fdiv_eq_ediv_of_nonneg _ (by exact Int.le_of_lt (Int.pow_pos (by decide)))]
  simp
theorem n_quo (x y : Nat) (hx : x < 9223372036854775808) : IntKind.i64.wrap ((x : Int).tdiv y) = ((x / y : Nat) : Int) := by
  have e : (x : Int).tdiv y = ((x / y : Nat) : Int) := by rw [Int.tdiv_eq_ediv_of_nonneg (by omega)]; rfl
  have := Nat.div_le_self x y
  rw [e]
  generalize x / y = q at *
  rw [wrap_in (by omega) (by omega)]
theorem n_rem (x y : Nat) : ((x : Int).tmod y) = ((x % y : Nat) : Int) := by
  rw [Int.tmod_eq_emod_of_nonneg (by omega)]; rfl
theorem max0 (x : Int) : (if true = true then (if (0 : Int) > x then 0 else x) else (if 0 < x then 0 else x)) = ((x.toNat : Nat) : Int) := by
  rw [if_pos rfl]; omega
theorem EqE.idM {x y : Int} {K : Int → Prop} (h : EqE (Int.tmod x y) K) : EqE (Int.tmod x y) K := h
theorem borrow_step {p x y c v : Nat} (hx : x < 4294967296) (hy : y < 4294967296) (hc : c ≤ 1) (hv : v = ((x + 18446744073709551616 - y) % 18446744073709551616 + 18446744073709551616 - c) % 18446744073709551616) :
    p * (v % 4294967296) + p * y + p * c = p * x + 4294967296 * p * (v / 4294967296 % 2) := by
  have h : v % 4294967296 + y + c = x + 4294967296 * (v / 4294967296 % 2) := by omega
  rw [Nat.mul_comm 4294967296 p, Nat.mul_assoc, ← Nat.mul_add, ← Nat.mul_add, ← Nat.mul_add, h]
theorem borrow_step63 {p x y c v : Nat} (hx : x < 4294967296) (hy : y < 4294967296) (hc : c ≤ 1) (hv : v = ((x + 18446744073709551616 - y) % 18446744073709551616 + 18446744073709551616 - c) % 18446744073709551616) :
    p * (v % 4294967296) + p * y + p * c = p * x + 4294967296 * p * (v / 9223372036854775808) := by
  have h : v % 4294967296 + y + c = x + 4294967296 * (v / 9223372036854775808) := by omega
  rw [Nat.mul_comm 4294967296 p, Nat.mul_assoc, ← Nat.mul_add, ← Nat.mul_add, ← Nat.mul_add, h]
theorem nv_take_le (l : List UInt32) (i : Nat) : nv (l.take i) ≤ nv l := by rw [nv_take_mod]; exact Nat.mod_le _ _
theorem n_shl32 (x : Nat) (h : x < 4294967296) : IntKind.u64.wrap (↑x * 2 ^ min (Int.toNat 32) IntKind.u64.bits) = ((x * 4294967296 : Nat) : Int) := n_shl x 32 (by decide) (by omega)
theorem shl_lt {x s : Nat} (hx : x < 4294967296) (hs : s < 32) : x * 2 ^ s < 9223372036854775808 := by
  have h1 : 2 ^ s ≤ 2 ^ 31 := Nat.pow_le_pow_right (by decide) (by omega)
  have h2 := Nat.mul_le_mul_left x h1
  omega
theorem shl_carry {y s : Nat} (hy : y < 4294967296) (hs : s < 32) : y * 2 ^ s / 4294967296 < 2 ^ s := by
  rw [Nat.div_lt_iff_lt_mul (by decide), Nat.mul_comm]
  exact Nat.mul_lt_mul_of_pos_left hy (Nat.two_pow_pos s)
theorem or_add {x c s : Nat} (h : c < 2 ^ s) : x * 2 ^ s ||| c = x * 2 ^ s + c := by
  rw [Nat.mul_comm, Nat.two_pow_add_eq_or_of_lt h]
theorem or_add32 {x y : Nat} (h : x < 4294967296) : x ||| y * 4294967296 = x + y * 4294967296 := by
  have := Nat.two_pow_add_eq_or_of_lt (i := 32) h y
  rw [Nat.or_comm, Nat.mul_comm, show (4294967296 : Nat) = 2 ^ 32 from rfl, ← this, Nat.add_comm]
theorem shl_div {x c s : Nat} (hs : s < 32) (h : c < 2 ^ s) : (x * 2 ^ s + c) / 4294967296 = x * 2 ^ s / 4294967296 := by
  have e : (4294967296 : Nat) = 2 ^ s * 2 ^ (32 - s) := by rw [← Nat.pow_add, show s + (32 - s) = 32 by omega]
  rw [e, ← Nat.div_div_eq_div_mul, ← Nat.div_div_eq_div_mul, Nat.mul_comm x, Nat.mul_add_div (Nat.two_pow_pos s), Nat.div_eq_of_lt h, Nat.mul_div_cancel_left _ (Nat.two_pow_pos s), Nat.add_zero]
theorem Pw_shift (q s : Nat) : Pw q * 2 ^ s = 2 ^ (32 * q + s) := by rw [Pw_two, Nat.pow_add]
theorem down_digit {x y z s : Nat} (hs : s < 32) : (x + y * 4294967296) / 2 ^ s % 4294967296 = (x + 4294967296 * (y + 4294967296 * z)) / 2 ^ s % 4294967296 := by
  have e : (4294967296 : Nat) = 2 ^ s * 2 ^ (32 - s) := by rw [← Nat.pow_add, show s + (32 - s) = 32 by omega]
  have h : x + 4294967296 * (y + 4294967296 * z) = (x + y * 4294967296) + 2 ^ s * (4294967296 * (2 ^ (32 - s) * z)) := by
    have : 4294967296 * (4294967296 * z) = 2 ^ s * (4294967296 * (2 ^ (32 - s) * z)) := by
      conv => lhs; rw [show 4294967296 * (4294967296 * z) = 4294967296 * z * 4294967296 by grind]; rhs; rw [e]
      grind
    omega
  rw [h, Nat.add_mul_div_left _ _ (Nat.two_pow_pos s), Nat.add_mul_mod_self_left]
theorem nv_drop' (l : List UInt32) (i : Nat) : nv (l.drop i) = (l.getD i 0).toNat + 4294967296 * nv (l.drop (i + 1)) := by
  by_cases h : i < l.length
  · exact nv_drop l i h
  · rw [List.drop_eq_nil_of_le (by omega), List.drop_eq_nil_of_le (by omega), getD_big (by omega)]; rfl
/-- How many noughts at the lower end. -/
def tzn (n : Nat) : Nat := if h : n = 0 then 0 else if n % 2 = 1 then 0 else tzn (n / 2) + 1
termination_by n
decreasing_by omega
theorem tzn_odd {n : Nat} (h : n % 2 = 1) : tzn n = 0 := by rw [tzn, dif_neg (by omega), if_pos h]
theorem tzn_even {n : Nat} (h0 : n ≠ 0) : tzn (2 * n) = tzn n + 1 := by
  rw [tzn, dif_neg (by omega), if_neg (by omega), Nat.mul_div_cancel_left _ (by decide)]
theorem tzn_shift (k : Nat) {n : Nat} (h0 : n ≠ 0) : tzn (2 ^ k * n) = k + tzn n := by
  induction k with
  | zero => simp
  | succ k ih =>
    rw [Nat.pow_succ, Nat.mul_comm (2 ^ k), Nat.mul_assoc, tzn_even (Nat.mul_ne_zero (Nat.ne_of_gt (Nat.two_pow_pos k)) h0), ih]; omega
theorem tzn_split (n : Nat) (h : n ≠ 0) : ∃ m, m % 2 = 1 ∧ n = 2 ^ tzn n * m := by
  induction n using Nat.strongRecOn with
  | _ n ih =>
    by_cases h1 : n % 2 = 1
    · exact ⟨n, h1, by rw [tzn_odd h1]; simp⟩
    · obtain ⟨m, hm, he⟩ := ih (n / 2) (by omega) (by omega)
      refine ⟨m, hm, ?_⟩
      have : n = 2 * (n / 2) := by omega
      conv => lhs; rw [this, he]
      conv => rhs; rw [this, tzn_even (by omega), Nat.pow_succ, Nat.mul_comm (2 ^ _) 2, Nat.mul_assoc]
theorem tzn_add {a b k : Nat} (ha : a ≠ 0) (hk : a < 2 ^ k) : tzn (a + 2 ^ k * b) = tzn a := by
  obtain ⟨m, hm, he⟩ := tzn_split a ha
  have hlt : tzn a < k := by
    refine (Nat.pow_lt_pow_iff_right (a := 2) (by decide)).1 (Nat.lt_of_le_of_lt ?_ hk)
    have := Nat.mul_le_mul_left (2 ^ tzn a) (show 1 ≤ m by omega)
    omega
  have e : a + 2 ^ k * b = 2 ^ tzn a * (m + 2 * (2 ^ (k - tzn a - 1) * b)) := by
    have : 2 ^ k = 2 ^ tzn a * (2 * 2 ^ (k - tzn a - 1)) := by
      rw [← Nat.pow_succ', ← Nat.pow_add]; congr 1; omega
    rw [this, Nat.mul_add, ← he]
    grind
  have h2 : tzn (m + 2 * (2 ^ (k - tzn a - 1) * b)) = 0 := tzn_odd (by generalize 2 ^ (k - tzn a - 1) * b = z; omega)
  have h3 : m + 2 * (2 ^ (k - tzn a - 1) * b) ≠ 0 := by generalize 2 ^ (k - tzn a - 1) * b = z; omega
  conv => lhs; rw [e]
  rw [tzn_shift _ h3, h2]; rfl
theorem tzn_lt {n k : Nat} (h0 : n ≠ 0) (h : n < 2 ^ k) : tzn n < k := by
  obtain ⟨m, hm, he⟩ := tzn_split n h0
  refine (Nat.pow_lt_pow_iff_right (a := 2) (by decide)).1 (Nat.lt_of_le_of_lt ?_ h)
  have := Nat.mul_le_mul_left (2 ^ tzn n) (show 1 ≤ m by omega)
  omega
/-- The lowest bit. -/
theorem low_bit (k : Nat) : ∀ w n : Nat, n < 2 ^ w → n % 2 = 1 → 2 ^ k * n &&& 2 ^ k * (2 ^ w - n) = 2 ^ k := by
  intro w n hw hn
  have h1 : n &&& (2 ^ w - n) = 1 := by
    apply Nat.eq_of_testBit_eq
    intro i
    have h2 : 2 ^ w - n = 2 ^ w - ((n - 1) + 1) := by omega
    rw [Nat.testBit_and, h2, Nat.testBit_two_pow_sub_succ (by omega)]
    cases i with
    | zero =>
      have h3 : 0 < w := by cases w with | zero => simp at hw; omega | succ _ => omega
      simp [Nat.testBit_zero, hn, h3]; omega
    | succ i =>
      have h4 : (n - 1).testBit (i + 1) = n.testBit (i + 1) := by
        rw [Nat.testBit_succ, Nat.testBit_succ, show (n - 1) / 2 = n / 2 by omega]
      rw [h4]
      cases n.testBit (i + 1) <;> simp [Nat.testBit_succ]
  apply Nat.eq_of_testBit_eq
  intro j
  have h5 := congrArg (fun z => z.testBit (j - k)) h1
  simp only [Nat.testBit_and] at h5
  simp only [Nat.testBit_and, Nat.testBit_two_pow_mul, Nat.testBit_two_pow]
  by_cases hj : k ≤ j
  · simp only [ge_iff_le, hj, decide_true, Bool.true_and, h5]
    rw [Bool.eq_iff_iff, Nat.testBit_one_eq_true_iff_self_eq_zero, decide_eq_true_iff]
    omega
  · simp [hj]; omega
theorem n_neg32 (x : Nat) (hx : x < 4294967296) : IntKind.u32.wrap (0 - ↑x) = (((4294967296 - x) % 4294967296 : Nat) : Int) := by rw [wrap_u32]; omega
theorem n_mul32 (x y : Nat) : IntKind.u32.wrap (↑x * ↑y) = ((x * y % 4294967296 : Nat) : Int) := by rw [wrap_u32, ← Int.natCast_mul]; omega
theorem n_low32 (x : Nat) (h0 : x ≠ 0) (hx : x < 4294967296) : IntKind.u32.wrap (BitVec.ofInt IntKind.u32.bits x &&& BitVec.ofInt IntKind.u32.bits (((4294967296 - x) % 4294967296 : Nat) : Int)).toNat = ((2 ^ tzn x : Nat) : Int) := by
  have e : ∀ z : Nat, z < 4294967296 → (BitVec.ofInt 32 (z : Int)).toNat = z := by
    intro z hz; rw [BitVec.toNat_ofInt]; omega
  show IntKind.u32.wrap ((BitVec.ofInt 32 (x : Int) &&& BitVec.ofInt 32 (((4294967296 - x) % 4294967296 : Nat) : Int)).toNat : Int) = _
  have hlt := tzn_lt (k := 32) h0 hx
  have h : x &&& ((4294967296 - x) % 4294967296) = 2 ^ tzn x := by
    rw [Nat.mod_eq_of_lt (by omega)]
    obtain ⟨m, hm, he⟩ := tzn_split x h0
    have e2 : (4294967296 : Nat) = 2 ^ tzn x * 2 ^ (32 - tzn x) := by rw [← Nat.pow_add, show tzn x + (32 - tzn x) = 32 by omega]
    have h3 : 4294967296 - x = 2 ^ tzn x * (2 ^ (32 - tzn x) - m) := by rw [Nat.mul_sub, ← e2, ← he]
    have h4 : m < 2 ^ (32 - tzn x) := by
      refine (Nat.mul_lt_mul_left (Nat.two_pow_pos (tzn x))).1 ?_
      rw [← he, ← e2]; exact hx
    rw [h3]
    conv => lhs; lhs; rw [he]
    exact low_bit _ _ _ h4 hm
  rw [BitVec.toNat_and, e x hx, e _ (Nat.mod_lt _ (by decide)), h, wrap_u32]
  have := Nat.pow_lt_pow_right (a := 2) (by decide) hlt
  omega
theorem testBit_tzn {n : Nat} (h : n ≠ 0) (i : Nat) (hi : i ≤ tzn n) : n.testBit i = decide (i = tzn n) := by
  obtain ⟨m, hm, he⟩ := tzn_split n h
  generalize tzn n = t at *
  rw [he, Nat.testBit_two_pow_mul]
  by_cases e : i = t
  · subst e; simp [Nat.testBit_zero, hm]
  · simp [e, show ¬ t ≤ i by omega]
/-- math/bits' table. -/
def deB : List UInt8 := [0, 1, 28, 2, 29, 14, 24, 3, 30, 22, 20, 15, 25, 17, 4, 8, 31, 27, 13, 23, 21, 19, 16, 7, 26, 12, 18, 6, 11, 5, 10, 9]
def deBD : List D := deB.map fun x => .int .u8 x.toNat
theorem deB_all : ((List.range 32).all fun t => (nth 0 deB (2 ^ t * 125613361 % 4294967296 / 134217728)).toNat == t) = true := by kernel_rfl
theorem deB_tz (t : Nat) (h : t < 32) : (nth 0 deB (2 ^ t * 125613361 % 4294967296 / 134217728)).toNat = t := by
  have := (List.all_eq_true.1 deB_all) t (by simpa using h)
  simpa using this
theorem deB_lt (x : Nat) : x % 4294967296 / 134217728 < 32 := Nat.div_lt_of_lt_mul (Nat.mod_lt _ (by decide))
theorem deB_get (t j : Nat) (hj : j < 32) (h : (nth 0 deB j).toNat = t) : (deBD.drop ((j : Int).toNat * 1))[0]? = some (.int .u8 t) := by
  have h3 : deB.length = 32 := rfl
  rw [Int.toNat_natCast, Nat.mul_one]
  simp only [deBD, List.getElem?_drop, Nat.add_zero, List.getElem?_map]
  rw [nth_get (d := (0 : UInt8)) (show j < deB.length by omega), Option.map_some, h]
theorem n_shrv32 (x s : Nat) (hs : s ≤ 32) : (x : Int).fdiv (2 ^ min (s : Int).toNat IntKind.u32.bits) = ((x / 2 ^ s : Nat) : Int) := by
  have e : min (s : Int).toNat IntKind.u32.bits = s := by
    show min (s : Int).toNat 32 = s
    omega
  rw [e, Int.fdiv_eq_ediv_of_nonneg _ (by exact Int.le_of_lt (Int.pow_pos (by decide)))]
  simp
theorem n_shr1_32 (x : Nat) : (x : Int).fdiv (2 ^ min (Int.toNat 1) IntKind.u32.bits) = ((x / 2 : Nat) : Int) := n_shr x 2 1 32 (by decide)
theorem n_and1_32 (x : Nat) (hx : x < 4294967296) : IntKind.u32.wrap (BitVec.ofInt IntKind.u32.bits x &&& BitVec.ofInt IntKind.u32.bits 1).toNat = ((x % 2 : Nat) : Int) := by
  have e : (BitVec.ofInt 32 (x : Int)).toNat = x := by rw [BitVec.toNat_ofInt]; omega
  show IntKind.u32.wrap ((BitVec.ofInt 32 (x : Int) &&& BitVec.ofInt 32 1).toNat : Int) = _
  rw [BitVec.toNat_and, e, show (BitVec.ofInt 32 1).toNat = 1 from rfl, Nat.and_one_is_mod, wrap_u32]; omega
theorem n_or32 (x y : Nat) (hx : x < 4294967296) (hy : y < 4294967296) : IntKind.u32.wrap (BitVec.ofInt IntKind.u32.bits x ||| BitVec.ofInt IntKind.u32.bits y).toNat = ((x ||| y : Nat) : Int) := by
  have e : ∀ z : Nat, z < 4294967296 → (BitVec.ofInt 32 (z : Int)).toNat = z := by
    intro z hz; rw [BitVec.toNat_ofInt]; omega
  have h : x ||| y < 2 ^ 32 := Nat.or_lt_two_pow hx hy
  show IntKind.u32.wrap ((BitVec.ofInt 32 (x : Int) ||| BitVec.ofInt 32 (y : Int)).toNat : Int) = _
  rw [BitVec.toNat_or, e x hx, e y hy, wrap_u32]; omega
theorem shl_mod {x s : Nat} (hs : s < 32) : x * 2 ^ s % 4294967296 = 2 ^ s * (x % 2 ^ (32 - s)) := by
  have e : (4294967296 : Nat) = 2 ^ s * 2 ^ (32 - s) := by rw [← Nat.pow_add, show s + (32 - s) = 32 by omega]
  rw [e, Nat.mul_comm x, Nat.mul_mod_mul_left]
theorem or_shl {x o s : Nat} (hs : s < 32) (ho : o < 2 ^ s) : o ||| x * 2 ^ s % 4294967296 = o + x * 2 ^ s % 4294967296 := by
  rw [shl_mod hs, Nat.or_comm, ← Nat.two_pow_add_eq_or_of_lt ho]; omega
theorem add_shl_lt {x o s : Nat} (hs : s < 32) (ho : o < 2 ^ s) : o + x * 2 ^ s % 4294967296 < 4294967296 := by
  have h1 : x * 2 ^ s % 4294967296 + 2 ^ s ≤ 4294967296 := by
    have e : (4294967296 : Nat) = 2 ^ s * 2 ^ (32 - s) := by rw [← Nat.pow_add, show s + (32 - s) = 32 by omega]
    rw [shl_mod hs, ← Nat.mul_succ]
    conv => rhs; rw [e]
    exact Nat.mul_le_mul_left _ (Nat.mod_lt _ (Nat.two_pow_pos _))
  omega
theorem n_orshl (x o s : Nat) (hs : s < 32) (ho : o < 2 ^ s) (ho2 : o < 4294967296) : IntKind.u32.wrap (BitVec.ofInt IntKind.u32.bits o ||| BitVec.ofInt IntKind.u32.bits ((x * 2 ^ s % 4294967296 : Nat) : Int)).toNat = ((o + x * 2 ^ s % 4294967296 : Nat) : Int) := by
  rw [n_or32 _ _ ho2 (Nat.mod_lt _ (by decide)), or_shl hs ho]
theorem nb_half {t : Nat} (h : t ≠ 0) : nb t = 1 + nb (t / 2) := by
  by_cases h1 : t = 1
  · subst h1; rfl
  · exact nb_div (k := 1) (by omega)
theorem testBit_nv (l : List UInt32) (i : Nat) : (nv l).testBit i = decide ((l.getD (i / 32) 0).toNat / 2 ^ (i % 32) % 2 = 1) := by
  rw [Nat.testBit_eq_decide_div_mod_eq, nv_getD]
  congr 2
  have h1 : i = 32 * (i / 32) + i % 32 := (Nat.div_add_mod _ _).symm
  have hs : i % 32 < 32 := Nat.mod_lt _ (by decide)
  conv => lhs; rw [h1]
  rw [Nat.pow_add, ← Pw_two, ← Nat.div_div_eq_div_mul]
  generalize nv l / Pw (i / 32) = M
  generalize i % 32 = s at *
  have e : (4294967296 : Nat) = 2 ^ s * (2 * 2 ^ (31 - s)) := by rw [← Nat.pow_succ', ← Nat.pow_add, show s + (31 - s + 1) = 32 by omega]
  rw [e, Nat.mod_mul_right_div_self, Nat.mod_mul_right_mod]
theorem max0r (n : Int) (h : n ≤ 100000) : (if true = true then (if min n 100000 > 0 then min n 100000 else 0) else (if min n 100000 < 0 then min n 100000 else 0)) = ((n.toNat : Nat) : Int) := by
  rw [if_pos rfl]; omega
theorem sl_sliceN (l : List UInt32) (q : Nat) (h : q ≤ l.length) : D.slice ((l.length : Int) - (q : Int)).toNat (((limbs l).drop ((q : Int).toNat * 1)).take (((l.length : Int) - (q : Int)).toNat * 1)) = sl (l.drop q) := by
  rw [sl_slice l q l.length (by omega) (by omega) (by omega), List.take_of_length_le (by rw [List.length_drop]; omega), Int.toNat_natCast]
theorem sl_sliceP (l : List UInt32) (k : Nat) (h : k ≤ l.length) : D.slice ((k : Int) - 0).toNat (((limbs l).drop ((0 : Int).toNat * 1)).take (((k : Int) - 0).toNat * 1)) = sl (l.take k) := by
  rw [sl_slice l 0 k (by omega) (by omega) (by omega)]; simp
theorem getD_set_self {l : List UInt32} {i : Nat} {v : UInt32} (h : i < l.length) : ((l.set i v).getD i 0) = v := by
  rw [List.getD_eq_getElem?_getD, List.getElem?_set_self h]; rfl
theorem div_step (M b k t : Nat) (hb : 0 < b) (ht : t = (M.testBit k).toNat) :
    M / 2 ^ k % b = (if b ≤ M / 2 ^ (k + 1) % b * 2 + t then M / 2 ^ (k + 1) % b * 2 + t - b else M / 2 ^ (k + 1) % b * 2 + t) ∧
    M / 2 ^ k / b = 2 * (M / 2 ^ (k + 1) / b) + (if b ≤ M / 2 ^ (k + 1) % b * 2 + t then 1 else 0) := by
  have h1 : M / 2 ^ (k + 1) = M / 2 ^ k / 2 := by rw [Nat.pow_succ, Nat.div_div_eq_div_mul]
  have h2 : t = M / 2 ^ k % 2 := by
    rw [ht, Nat.testBit_eq_decide_div_mod_eq]
    rcases Nat.mod_two_eq_zero_or_one (M / 2 ^ k) with h | h <;> rw [h] <;> rfl
  rw [h1]
  generalize M / 2 ^ k = Y at *
  have h3 : Y = 2 * (Y / 2) + t := by omega
  have h4 := Nat.div_add_mod (Y / 2) b
  have h5 := Nat.mod_lt (Y / 2) hb
  generalize Y / 2 = X at *
  generalize X / b = Q at *
  generalize X % b = r at *
  have h6 : Y = (r * 2 + t) + b * (2 * Q) := by
    have : b * (2 * Q) = 2 * (b * Q) := by grind
    omega
  have ht2 : t ≤ 1 := by omega
  split
  · rename_i h7
    have h8 : Y = (r * 2 + t - b) + b * (2 * Q + 1) := by rw [Nat.mul_add]; omega
    rw [h8, Nat.add_mul_mod_self_left, Nat.add_mul_div_left _ _ hb, Nat.mod_eq_of_lt (by omega), Nat.div_eq_of_lt (by omega)]
    exact ⟨rfl, by omega⟩
  · rename_i h7
    rw [h6, Nat.add_mul_mod_self_left, Nat.add_mul_div_left _ _ hb, Nat.mod_eq_of_lt (by omega), Nat.div_eq_of_lt (by omega)]
    exact ⟨rfl, by omega⟩
theorem n_shl1_32 (s : Nat) (hs : s < 32) : IntKind.u32.wrap (1 * 2 ^ min (s : Int).toNat IntKind.u32.bits) = ((2 ^ s : Nat) : Int) := by
  have e : min (s : Int).toNat IntKind.u32.bits = s := by
    show min (s : Int).toNat 32 = s
    omega
  have h := Nat.pow_lt_pow_right (a := 2) (by decide) hs
  rw [e, Int.one_mul, show (2 : Int) ^ s = ((2 ^ s : Nat) : Int) by simp, wrap_u32]
  generalize (2 : Nat) ^ s = z at *
  omega
/-- The limb of a number whose lower bits are 0. -/
theorem limb_clear {l : List UInt32} {k Q : Nat} (h : nv l = Q * 2 ^ (k + 1)) : ∃ c, (l.getD (k / 32) 0).toNat = 2 ^ (k % 32 + 1) * c := by
  have hs : k % 32 < 32 := Nat.mod_lt _ (by decide)
  rw [nv_getD, h, show k + 1 = 32 * (k / 32) + (k % 32 + 1) by omega, Nat.pow_add, ← Pw_two, ← Nat.mul_assoc, Nat.mul_comm Q, Nat.mul_assoc, Nat.mul_div_cancel_left _ (Pw_pos _), Nat.mul_comm]
  refine ⟨Q % 2 ^ (31 - k % 32), ?_⟩
  rw [show (4294967296 : Nat) = 2 ^ (k % 32 + 1) * 2 ^ (31 - k % 32) by rw [← Nat.pow_add, show k % 32 + 1 + (31 - k % 32) = 32 by omega], Nat.mul_mod_mul_left]
theorem n_orbit {o s c : Nat} (hs : s < 32) (ho : o < 4294967296) (hc : o = 2 ^ (s + 1) * c) : IntKind.u32.wrap (BitVec.ofInt IntKind.u32.bits o ||| BitVec.ofInt IntKind.u32.bits ((2 ^ s : Nat) : Int)).toNat = ((o + 2 ^ s : Nat) : Int) := by
  have h := Nat.pow_lt_pow_right (a := 2) (by decide) hs
  rw [n_or32 _ _ ho h, hc, ← Nat.two_pow_add_eq_or_of_lt (Nat.pow_lt_pow_right (by decide) (by omega))]
theorem orbit_lt {o s c : Nat} (hs : s < 32) (ho : o < 4294967296) (hc : o = 2 ^ (s + 1) * c) : o + 2 ^ s < 4294967296 := by
  have e : (4294967296 : Nat) = 2 ^ (s + 1) * 2 ^ (31 - s) := by rw [← Nat.pow_add, show s + 1 + (31 - s) = 32 by omega]
  have h1 : c + 1 ≤ 2 ^ (31 - s) := by
    rw [hc, e] at ho
    exact (Nat.mul_lt_mul_left (Nat.two_pow_pos _)).1 ho
  have h2 := Nat.mul_le_mul_left (2 ^ (s + 1)) h1
  rw [← e, Nat.mul_add, ← hc, Nat.mul_one] at h2
  have := Nat.pow_lt_pow_right (a := 2) (by decide) (show s < s + 1 by omega)
  omega
theorem cmpN_ge {a b : Nat} : cmpN a b ≥ 0 ↔ b ≤ a := by
  unfold cmpN
  split
  · constructor <;> intro h <;> first | (simp at h; done) | omega
  · split <;> constructor <;> intro h <;> first | omega | simp
theorem nv_setbit {q : List UInt32} {k : Nat} (hk : k / 32 < q.length) (h : (q.getD (k / 32) 0).toNat + 2 ^ (k % 32) < 4294967296) :
    nv (q.set (k / 32) (UInt32.ofNat ((q.getD (k / 32) 0).toNat + 2 ^ (k % 32)))) = nv q + 2 ^ k := by
  have h1 := nv_set q (k / 32) (UInt32.ofNat ((q.getD (k / 32) 0).toNat + 2 ^ (k % 32))) hk
  rw [toNat_ofNat h, Nat.mul_add, Pw_shift, Nat.div_add_mod] at h1
  omega
theorem sl_nil : D.slice 0 [] = sl [] := rfl
end Go.Ev
