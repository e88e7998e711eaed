/- Words for rows of limbs. -/
import Derived.Test.YtmgbegcamhkblaaDoorEvK
set_option linter.unusedSimpArgs false
set_option linter.unusedVariables false
namespace Go.Ev
open Go

theorem wrap_in {n : Int} (h0 : -9223372036854775808 ≤ n) (h1 : n ≤ 9223372036854775807) : IntKind.i64.wrap n = n := by
  have e : IntKind.i64.wrap n = if (true && decide (n % 2 ^ 64 ≥ 2 ^ 63)) = true then n % 2 ^ 64 - 2 ^ 64 else n % 2 ^ 64 := rfl
  rw [e]
  by_cases h : n % 2 ^ 64 ≥ 2 ^ 63
  · rw [if_pos (by simpa using h)]; omega
  · rw [if_neg (by simpa using h)]; omega
theorem wrap_u64 {n : Int} (h0 : 0 ≤ n) (h1 : n < 18446744073709551616) : IntKind.u64.wrap n = n := by
  have e : IntKind.u64.wrap n = if (false && decide (n % 2 ^ 64 ≥ 2 ^ 63)) = true then n % 2 ^ 64 - 2 ^ 64 else n % 2 ^ 64 := rfl
  rw [e, if_neg (by simp)]
  omega
theorem wrap_u32 (n : Int) : IntKind.u32.wrap n = n % 4294967296 := by
  have e : IntKind.u32.wrap n = if (false && decide (n % 2 ^ 32 ≥ 2 ^ 31)) = true then n % 2 ^ 32 - 2 ^ 32 else n % 2 ^ 32 := rfl
  rw [e, if_neg (by simp)]
  rfl
/-- Limbs, as cells. -/
def limbs (l : List UInt32) : List D := l.map fun x => .int .u32 x.toNat
/-- A slice of limbs. -/
def sl (l : List UInt32) : D := .slice l.length (limbs l)

@[simp] theorem length_limbs (l : List UInt32) : (limbs l).length = l.length := by simp [limbs]
theorem limbs_get (l : List UInt32) (i : Nat) (h : i < l.length) : (limbs l)[i]? = some (.int .u32 (l.getD i 0).toNat) := by
  simp [limbs, h]
theorem limbs_drop (l : List UInt32) (i : Nat) (h : i < l.length) : ((limbs l).drop (i * 1))[0]? = some (.int .u32 (l.getD i 0).toNat) := by
  simp [limbs, h]
theorem limbs_getA (l : List UInt32) (i : Nat) (h : i < l.length) : ((limbs l).map A.d)[i]? = some (.d (.int .u32 (l.getD i 0).toNat)) := by
  simp [limbs, h]
theorem sl_slice (l : List UInt32) (a b : Int) (h0 : 0 ≤ a) (h1 : a ≤ b) (h2 : b ≤ l.length) :
    D.slice (b - a).toNat (((limbs l).drop (a.toNat * 1)).take ((b - a).toNat * 1)) = sl ((l.drop a.toNat).take (b - a).toNat) := by
  unfold sl limbs
  rw [Nat.mul_one, Nat.mul_one, List.map_take, List.map_drop]
  congr 1
  simp; omega
end Go.Ev
