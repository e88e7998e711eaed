/- Rows of limbs as numbers: plain arithmetic. -/
import Derived.Test.YtmgbegcamhkblaaDoorEvV
set_option linter.unusedSimpArgs false
set_option linter.unusedVariables false
namespace Go.Ev
open Go

/-- Powers of a limb. -/
def Pw (k : Nat) : Nat := 4294967296 ^ k
theorem Pw_zero : Pw 0 = 1 := rfl
theorem Pw_succ (k : Nat) : Pw (k + 1) = 4294967296 * Pw k := by unfold Pw; rw [Nat.pow_succ, Nat.mul_comm]
theorem Pw_add (a b : Nat) : Pw (a + b) = Pw a * Pw b := Nat.pow_add _ _ _
theorem Pw_pos (k : Nat) : 0 < Pw k := Nat.pow_pos (by decide)
theorem Pw_two (k : Nat) : Pw k = 2 ^ (32 * k) := by unfold Pw; rw [Nat.pow_mul]
theorem Pw_mono {a b : Nat} (h : a ≤ b) : Pw a ≤ Pw b := Nat.pow_le_pow_right (by decide) h
theorem Pw_lt {a b : Nat} (h : a < b) : Pw a < Pw b := Nat.pow_lt_pow_right (by decide) h

theorem u32_lt (x : UInt32) : x.toNat < 4294967296 := x.toNat_lt
/-- A row's number. -/
def nv : List UInt32 → Nat
  | [] => 0
  | x :: l => x.toNat + 4294967296 * nv l
@[simp] theorem nv_nil : nv [] = 0 := rfl
theorem nv_cons (x : UInt32) (l : List UInt32) : nv (x :: l) = x.toNat + 4294967296 * nv l := rfl
theorem nv_lt : ∀ l : List UInt32, nv l < Pw l.length
  | [] => by simp [Pw]
  | x :: l => by
    have := nv_lt l
    have := u32_lt x
    rw [nv_cons, List.length_cons, Pw_succ]; omega
theorem nv_append : ∀ a b : List UInt32, nv (a ++ b) = nv a + Pw a.length * nv b
  | [], b => by simp [Pw]
  | x :: a, b => by
    rw [List.cons_append, nv_cons, nv_cons, nv_append a b, List.length_cons, Pw_succ, Nat.mul_add, Nat.mul_assoc]; omega
theorem nv_replicate : ∀ n : Nat, nv (List.replicate n 0) = 0
  | 0 => rfl
  | n + 1 => by rw [List.replicate_succ, nv_cons, nv_replicate n]; rfl
theorem nv_take_drop (l : List UInt32) (i : Nat) (h : i ≤ l.length) : nv l = nv (l.take i) + Pw i * nv (l.drop i) := by
  have := nv_append (l.take i) (l.drop i)
  rw [List.take_append_drop, List.length_take, Nat.min_eq_left h] at this
  exact this
theorem nv_set : ∀ (l : List UInt32) (i : Nat) (v : UInt32), i < l.length → nv (l.set i v) + Pw i * (l.getD i 0).toNat = nv l + Pw i * v.toNat
  | [], i, v, h => by simp at h
  | x :: l, 0, v, h => by simp [nv_cons, Pw]; omega
  | x :: l, i + 1, v, h => by
    have := nv_set l i v (by simpa using h)
    simp only [List.set_cons_succ, nv_cons, List.getD_cons_succ, Pw_succ, Nat.mul_assoc]; omega
theorem nv_take_succ (l : List UInt32) (i : Nat) (h : i < l.length) : nv (l.take (i + 1)) = nv (l.take i) + Pw i * (l.getD i 0).toNat := by
  rw [List.take_succ_eq_append_getElem h, nv_append, List.length_take, Nat.min_eq_left (by omega)]
  simp [nv_cons, h]
theorem nv_drop (l : List UInt32) (i : Nat) (h : i < l.length) : nv (l.drop i) = (l.getD i 0).toNat + 4294967296 * nv (l.drop (i + 1)) := by
  rw [List.drop_eq_getElem_cons h, nv_cons]
  simp [h]
theorem nv_drop_div (l : List UInt32) (i : Nat) : nv (l.drop i) = nv l / Pw i := by
  by_cases h : i ≤ l.length
  · have h1 := nv_take_drop l i h
    have h2 := nv_lt (l.take i)
    rw [List.length_take, Nat.min_eq_left h] at h2
    rw [h1, Nat.add_mul_div_left _ _ (Pw_pos i), Nat.div_eq_of_lt h2, Nat.zero_add]
  · rw [List.drop_eq_nil_of_le (by omega), nv_nil, Nat.div_eq_of_lt]
    exact Nat.lt_of_lt_of_le (nv_lt l) (Pw_mono (by omega))
theorem nv_take_mod (l : List UInt32) (i : Nat) : nv (l.take i) = nv l % Pw i := by
  by_cases h : i ≤ l.length
  · have h1 := nv_take_drop l i h
    have h2 := nv_lt (l.take i)
    rw [List.length_take, Nat.min_eq_left h] at h2
    rw [h1, Nat.add_mul_mod_self_left, Nat.mod_eq_of_lt h2]
  · rw [List.take_of_length_le (by omega), Nat.mod_eq_of_lt]
    exact Nat.lt_of_lt_of_le (nv_lt l) (Pw_mono (by omega))
theorem nv_getD (l : List UInt32) (i : Nat) : (l.getD i 0).toNat = nv l / Pw i % 4294967296 := by
  rw [← nv_drop_div]
  by_cases h : i < l.length
  · rw [nv_drop l i h, Nat.add_mul_mod_self_left, Nat.mod_eq_of_lt (u32_lt _)]
  · rw [List.drop_eq_nil_of_le (by omega)]
    simp [List.getD, List.getElem?_eq_none (Nat.le_of_not_lt h)]

/-- A number's row, without noughts on top. -/
def ofN (n : Nat) : List UInt32 := if h : n = 0 then [] else UInt32.ofNat n :: ofN (n / 4294967296)
termination_by n
decreasing_by omega
theorem ofN_zero : ofN 0 = [] := by rw [ofN]; rfl
theorem ofN_pos {n : Nat} (h : n ≠ 0) : ofN n = UInt32.ofNat n :: ofN (n / 4294967296) := by rw [ofN, dif_neg h]
@[simp] theorem nv_ofN (n : Nat) : nv (ofN n) = n := by
  induction n using Nat.strongRecOn with
  | _ n ih =>
    by_cases h : n = 0
    · rw [h, ofN_zero]; rfl
    · rw [ofN_pos h, nv_cons, ih _ (by omega), UInt32.toNat_ofNat']; omega
theorem ofN_cons (x : UInt32) (n : Nat) (h : x.toNat + 4294967296 * n ≠ 0) : ofN (x.toNat + 4294967296 * n) = x :: ofN n := by
  have := u32_lt x
  rw [ofN_pos h]
  congr 1
  · apply UInt32.toNat_inj.1; rw [UInt32.toNat_ofNat']; omega
  · congr 1; omega
/-- Without noughts on top. -/
def cutOk (l : List UInt32) : Bool := l.getLast? != some 0
theorem cutOk_ofN (n : Nat) : cutOk (ofN n) = true := by
  induction n using Nat.strongRecOn with
  | _ n ih =>
    by_cases h : n = 0
    · rw [h, ofN_zero]; rfl
    · rw [ofN_pos h]
      by_cases h2 : n / 4294967296 = 0
      · rw [h2, ofN_zero]
        simp only [cutOk, List.getLast?_singleton, bne_iff_ne, ne_eq, Option.some.injEq]
        intro e
        have := congrArg UInt32.toNat e
        rw [UInt32.toNat_ofNat'] at this
        simp at this; omega
      · have := ih _ (show n / 4294967296 < n by omega)
        rw [ofN_pos h2] at this ⊢
        simpa [cutOk, List.getLast?_cons_cons] using this
theorem ofN_nv : ∀ {l : List UInt32}, cutOk l = true → ofN (nv l) = l
  | [], _ => ofN_zero
  | [x], h => by
    rw [nv_cons, nv_nil, ofN_cons _ _ ?_, ofN_zero]
    intro e
    have : x = 0 := UInt32.toNat_inj.1 (by simp at e ⊢; omega)
    simp [cutOk, this] at h
  | x :: y :: l, h => by
    have ih := ofN_nv (l := y :: l) (by simpa [cutOk, List.getLast?_cons_cons] using h)
    rw [nv_cons, ofN_cons _ _ ?_, ih]
    intro e
    have e : nv (y :: l) = 0 := by omega
    rw [e, ofN_zero] at ih
    cases ih
theorem ofN_ne_nil {n : Nat} (h : n ≠ 0) : ofN n ≠ [] := by rw [ofN_pos h]; simp
theorem ofN_eq_nil {n : Nat} : ofN n = [] ↔ n = 0 := ⟨fun h => by have := nv_ofN n; rw [h] at this; exact this.symm, fun h => by rw [h, ofN_zero]⟩
theorem ofN_len_zero {n : Nat} : (ofN n).length = 0 ↔ n = 0 := by rw [List.length_eq_zero_iff, ofN_eq_nil]
theorem ofN_inj {a b : Nat} (h : ofN a = ofN b) : a = b := by have := congrArg nv h; simpa using this
theorem nv_ge {l : List UInt32} (h : cutOk l = true) (hl : l ≠ []) : Pw (l.length - 1) ≤ nv l := by
  obtain ⟨a, x, rfl⟩ : ∃ a x, l = a ++ [x] := ⟨l.dropLast, l.getLast hl, (List.dropLast_concat_getLast hl).symm⟩
  have hx : x ≠ 0 := by simpa [cutOk] using h
  have hx : x.toNat ≠ 0 := fun e => hx (UInt32.toNat_inj.1 (by simpa using e))
  rw [nv_append, List.length_append]
  simp only [List.length_cons, List.length_nil, Nat.zero_add, Nat.add_sub_cancel, nv_cons, nv_nil, Nat.mul_zero, Nat.add_zero]
  have := Nat.mul_le_mul_left (Pw a.length) (show 1 ≤ x.toNat by omega)
  omega
theorem ofN_len_le {n k : Nat} : (ofN n).length ≤ k ↔ n < Pw k := by
  constructor
  · intro h
    have := nv_lt (ofN n)
    rw [nv_ofN] at this
    exact Nat.lt_of_lt_of_le this (Pw_mono h)
  · intro h
    by_cases e : n = 0
    · rw [e, ofN_zero]; simp
    · have h1 := nv_ge (cutOk_ofN n) (ofN_ne_nil e)
      rw [nv_ofN] at h1
      have h2 : Pw ((ofN n).length - 1) < Pw k := by omega
      by_cases h3 : (ofN n).length ≤ k
      · exact h3
      · have := Pw_mono (show k ≤ (ofN n).length - 1 by omega); omega
theorem ofN_len_nv (l : List UInt32) : (ofN (nv l)).length ≤ l.length := ofN_len_le.2 (nv_lt l)
/-- One nought on top is taken away. -/
theorem nv_dropTop {l : List UInt32} (h : l ≠ []) (h0 : (l.getD (l.length - 1) 0).toNat = 0) : nv (l.take (l.length - 1)) = nv l := by
  have hp : 0 < l.length := by cases l with | nil => exact absurd rfl h | cons _ _ => simp
  have := nv_take_succ l (l.length - 1) (by omega)
  rw [Nat.sub_add_cancel hp, List.take_length, h0] at this
  omega
theorem cutOk_iff (l : List UInt32) : cutOk l = true ↔ l = [] ∨ (l.getD (l.length - 1) 0).toNat ≠ 0 := by
  cases l with
  | nil => simp [cutOk]
  | cons x l =>
    have e : (x :: l).getLast? = some ((x :: l).getD ((x :: l).length - 1) 0) := by
      rw [List.getLast?_eq_getElem?, List.getD_eq_getElem?_getD]
      simp
    rw [cutOk, e]
    simp only [bne_iff_ne, ne_eq, Option.some.injEq, reduceCtorEq, false_or]
    exact not_congr (by rw [← UInt32.toNat_inj]; rfl)
theorem ofN_of {l : List UInt32} (h : l = [] ∨ (l.getD (l.length - 1) 0).toNat ≠ 0) : ofN (nv l) = l := ofN_nv ((cutOk_iff l).2 h)
/-- The lesser length, the lesser number. -/
theorem ofN_len_lt {a b : Nat} (h : (ofN a).length < (ofN b).length) : a < b := by
  have h1 := nv_lt (ofN a)
  rw [nv_ofN] at h1
  by_cases e : b = 0
  · rw [e, ofN_zero] at h; simp at h
  · have h2 := nv_ge (cutOk_ofN b) (ofN_ne_nil e)
    rw [nv_ofN] at h2
    have := Pw_mono (show (ofN a).length ≤ (ofN b).length - 1 by omega)
    omega
end Go.Ev
