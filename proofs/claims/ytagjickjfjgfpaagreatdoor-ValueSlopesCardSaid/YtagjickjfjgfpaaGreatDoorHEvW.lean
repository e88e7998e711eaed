/- Contracts of the given functions, on data. Conditions stand in each theorem. -/
import Derived.Test.YtagjickjfjgfpaaGreatDoorHEvK
set_option linter.unusedSimpArgs false
set_option linter.unusedVariables false
namespace Go.Ev
open Go
def Pw (k : Nat) : Nat := 4294967296 ^ k
theorem aei : Pw 0 = 1 := rfl
theorem c5 (k : Nat) : Pw (k + 1) = 4294967296 * Pw k := by unfold Pw; rw [Nat.pow_succ, Nat.mul_comm]
theorem w5 (a b : Nat) : Pw (a + b) = Pw a * Pw b := Nat.pow_add _ _ _
theorem avg (k : Nat) : 0 < Pw k := Nat.pow_pos (by decide)
theorem nf (k : Nat) : Pw k = 2 ^ (32 * k) := by unfold Pw; rw [Nat.pow_mul]
theorem e8 {a b : Nat} (h : a ≤ b) : Pw a ≤ Pw b := Nat.pow_le_pow_right (by decide) h
theorem bd (x : UInt32) : x.toNat < 4294967296 := x.toNat_lt
def nv : List UInt32 → Nat
 | [] => 0
 | x :: l => x.toNat + 4294967296 * nv l
@[simp] theorem vp : nv [] = 0 := rfl
theorem fj (x : UInt32) (l : List UInt32) : nv (x :: l) = x.toNat + 4294967296 * nv l := rfl
theorem dc : ∀ l : List UInt32, nv l < Pw l.length
 | [] => by simp [Pw]
 | x :: l => by
  have := dc l
  have := bd x
  rw [fj, List.length_cons, c5]; omega
theorem l5 : ∀ a b : List UInt32, nv (a ++ b) = nv a + Pw a.length * nv b
 | [], b => by simp [Pw]
 | x :: a, b => by
  rw [List.cons_append, fj, fj, l5 a b, List.length_cons, c5, Nat.mul_add, Nat.mul_assoc]; omega
theorem bo : ∀ n : Nat, nv (List.replicate n 0) = 0
 | 0 => rfl
 | n + 1 => by rw [List.replicate_succ, fj, bo n]; rfl
theorem ir (l : List UInt32) (i : Nat) (h : i ≤ l.length) : nv l = nv (l.take i) + Pw i * nv (l.drop i) := by
 have := l5 (l.take i) (l.drop i)
 rw [List.take_append_drop, List.length_take, Nat.min_eq_left h] at this
 exact this
theorem agq : ∀ (l : List UInt32) (i : Nat) (v : UInt32), i < l.length → nv (l.set i v) + Pw i * (l.getD i 0).toNat = nv l + Pw i * v.toNat
 | [], i, v, h => by simp at h
 | x :: l, 0, v, h => by simp [fj, Pw]; omega
 | x :: l, i + 1, v, h => by
  have := agq l i v (by simpa using h)
  simp only [List.set_cons_succ, fj, List.getD_cons_succ, c5, Nat.mul_assoc]; omega
theorem abv (l : List UInt32) (i : Nat) (h : i < l.length) : nv (l.take (i + 1)) = nv (l.take i) + Pw i * (l.getD i 0).toNat := by
 rw [List.take_succ_eq_append_getElem h, l5, List.length_take, Nat.min_eq_left (by omega)]
 simp [fj, h]
theorem jo (l : List UInt32) (i : Nat) (h : i < l.length) : nv (l.drop i) = (l.getD i 0).toNat + 4294967296 * nv (l.drop (i + 1)) := by
 rw [List.drop_eq_getElem_cons h, fj]
 simp [h]
theorem eb (l : List UInt32) (i : Nat) : nv (l.drop i) = nv l / Pw i := by
 by_cases h : i ≤ l.length
 ·have h1 := ir l i h
  have h2 := dc (l.take i)
  rw [List.length_take, Nat.min_eq_left h] at h2
  rw [h1, Nat.add_mul_div_left _ _ (avg i), Nat.div_eq_of_lt h2, Nat.zero_add]
 ·rw [List.drop_eq_nil_of_le (by omega), vp, Nat.div_eq_of_lt]
  exact Nat.lt_of_lt_of_le (dc l) (e8 (by omega))
theorem xp (l : List UInt32) (i : Nat) : nv (l.take i) = nv l % Pw i := by
 by_cases h : i ≤ l.length
 ·have h1 := ir l i h
  have h2 := dc (l.take i)
  rw [List.length_take, Nat.min_eq_left h] at h2
  rw [h1, Nat.add_mul_mod_self_left, Nat.mod_eq_of_lt h2]
 ·rw [List.take_of_length_le (by omega), Nat.mod_eq_of_lt]
  exact Nat.lt_of_lt_of_le (dc l) (e8 (by omega))
theorem abu (l : List UInt32) (i : Nat) : (l.getD i 0).toNat = nv l / Pw i % 4294967296 := by
 rw [← eb]
 by_cases h : i < l.length
 ·rw [jo l i h, Nat.add_mul_mod_self_left, Nat.mod_eq_of_lt (bd _)]
 ·rw [List.drop_eq_nil_of_le (by omega)]
  simp [List.getD, List.getElem?_eq_none (Nat.le_of_not_lt h)]
def ofN (n : Nat) : List UInt32 := if h : n = 0 then [] else UInt32.ofNat n :: ofN (n / 4294967296)
termination_by n
decreasing_by omega
theorem bh : ofN 0 = [] := by rw [ofN]; rfl
theorem y4 {n : Nat} (h : n ≠ 0) : ofN n = UInt32.ofNat n :: ofN (n / 4294967296) := by rw [ofN, dif_neg h]
@[simp] theorem aw (n : Nat) : nv (ofN n) = n := by
 induction n using Nat.strongRecOn with
 | _ n ih =>
  by_cases h : n = 0
  ·rw [h, bh]; rfl
  ·rw [y4 h, fj, ih _ (by omega), UInt32.toNat_ofNat']; omega
theorem am2 (x : UInt32) (n : Nat) (h : x.toNat + 4294967296 * n ≠ 0) : ofN (x.toNat + 4294967296 * n) = x :: ofN n := by
 have := bd x
 rw [y4 h]
 congr 1
 ·apply UInt32.toNat_inj.1; rw [UInt32.toNat_ofNat']; omega
 ·congr 1; omega
def kj (l : List UInt32) : Bool := l.getLast? != some 0
theorem p9 (n : Nat) : kj (ofN n) = true := by
 induction n using Nat.strongRecOn with
 | _ n ih =>
  by_cases h : n = 0
  ·rw [h, bh]; rfl
  ·rw [y4 h]
   by_cases h2 : n / 4294967296 = 0
   ·rw [h2, bh]
    simp only [kj, List.getLast?_singleton, bne_iff_ne, ne_eq, Option.some.injEq]
    intro e
    have := congrArg UInt32.toNat e
    rw [UInt32.toNat_ofNat'] at this
    simp at this; omega
   ·have := ih _ (show n / 4294967296 < n by omega)
    rw [y4 h2] at this ⊢
    simpa [kj, List.getLast?_cons_cons] using this
theorem akt : ∀ {l : List UInt32}, kj l = true → ofN (nv l) = l
 | [], _ => bh
 | [x], h => by
  rw [fj, vp, am2 _ _ ?_, bh]
  intro e
  have : x = 0 := UInt32.toNat_inj.1 (by simp at e ⊢; omega)
  simp [kj, this] at h
 | x :: y :: l, h => by
  have ih := akt (l := y :: l) (by simpa [kj, List.getLast?_cons_cons] using h)
  rw [fj, am2 _ _ ?_, ih]
  intro e
  have e : nv (y :: l) = 0 := by omega
  rw [e, bh] at ih
  cases ih
theorem vq {n : Nat} (h : n ≠ 0) : ofN n ≠ [] := by rw [y4 h]; simp
theorem apx {n : Nat} : ofN n = [] ↔ n = 0 := ⟨fun h => by have := aw n; rw [h] at this; exact this.symm, fun h => by rw [h, bh]⟩
theorem bp {n : Nat} : (ofN n).length = 0 ↔ n = 0 := by rw [List.length_eq_zero_iff, apx]
theorem a1b {a b : Nat} (h : ofN a = ofN b) : a = b := by have := congrArg nv h; simpa using this
theorem axv {l : List UInt32} (h : kj l = true) (hl : l ≠ []) : Pw (l.length - 1) ≤ nv l := by
 obtain ⟨a, x, rfl⟩ : ∃ a x, l = a ++ [x] := ⟨l.dropLast, l.getLast hl, (List.dropLast_concat_getLast hl).symm⟩
 have hx : x ≠ 0 := by simpa [kj] using h
 have hx : x.toNat ≠ 0 := fun e => hx (UInt32.toNat_inj.1 (by simpa using e))
 rw [l5, List.length_append]
 simp only [List.length_cons, List.length_nil, Nat.zero_add, Nat.add_sub_cancel, fj, vp, Nat.mul_zero, Nat.add_zero]
 have := Nat.mul_le_mul_left (Pw a.length) (show 1 ≤ x.toNat by omega)
 omega
theorem b5 {n k : Nat} : (ofN n).length ≤ k ↔ n < Pw k := by
 constructor
 ·intro h
  have := dc (ofN n)
  rw [aw] at this
  exact Nat.lt_of_lt_of_le this (e8 h)
 ·intro h
  by_cases e : n = 0
  ·rw [e, bh]; simp
  ·have h1 := axv (p9 n) (vq e)
   rw [aw] at h1
   have h2 : Pw ((ofN n).length - 1) < Pw k := by omega
   by_cases h3 : (ofN n).length ≤ k
   ·exact h3
   ·have := e8 (show k ≤ (ofN n).length - 1 by omega); omega
theorem cb (l : List UInt32) : (ofN (nv l)).length ≤ l.length := b5.2 (dc l)
theorem ago {l : List UInt32} (h : l ≠ []) (h0 : (l.getD (l.length - 1) 0).toNat = 0) : nv (l.take (l.length - 1)) = nv l := by
 have hp : 0 < l.length := by cases l with | nil => exact absurd rfl h | cons _ _ => simp
 have := abv l (l.length - 1) (by omega)
 rw [Nat.sub_add_cancel hp, List.take_length, h0] at this
 omega
theorem p8 (l : List UInt32) : kj l = true ↔ l = [] ∨ (l.getD (l.length - 1) 0).toNat ≠ 0 := by
 cases l with
 | nil => simp [kj]
 | cons x l =>
  have e : (x :: l).getLast? = some ((x :: l).getD ((x :: l).length - 1) 0) := by
   rw [List.getLast?_eq_getElem?, List.getD_eq_getElem?_getD]
   simp
  rw [kj, e]
  simp only [bne_iff_ne, ne_eq, Option.some.injEq, reduceCtorEq, false_or]
  exact not_congr (by rw [← UInt32.toNat_inj]; rfl)
theorem aku {l : List UInt32} (h : l = [] ∨ (l.getD (l.length - 1) 0).toNat ≠ 0) : ofN (nv l) = l := akt ((p8 l).2 h)
theorem q7 {a b : Nat} (h : (ofN a).length < (ofN b).length) : a < b := by
 have h1 := dc (ofN a)
 rw [aw] at h1
 by_cases e : b = 0
 ·rw [e, bh] at h; simp at h
 ·have h2 := axv (p9 b) (vq e)
  rw [aw] at h2
  have := e8 (show (ofN a).length ≤ (ofN b).length - 1 by omega)
  omega
end Go.Ev

namespace Go.Ev
open Go
def la (l : List UInt32) : List A := (bj l).map A.d
@[simp] theorem ue (l : List UInt32) : (la l).length = l.length := by simp [la]
theorem agd (l : List UInt32) (i j : Nat) (e : i = j) (h : j < l.length) : (la l)[i]? = some (.d (.int .u32 (l.getD j 0).toNat)) := by
 subst e; exact apk l i h
theorem ns (n : Nat) : jb n (nc [ZK.int .u32]) = la (List.replicate n 0) := by
 induction n with
 | zero => rfl
 | succ n ih =>
  unfold jb at ih ⊢
  rw [List.replicate_succ, List.flatten_cons, ih]
  rfl
theorem a3f (l : List UInt32) (o j : Nat) (v : Int) (e : o = j) (hj : j < l.length) (h0 : 0 ≤ v) (h1 : v < 4294967296) :
  setAt (la l) o (A.cells (.d (.int .u32 v))) = la (l.set j (UInt32.ofNat v.toNat)) := by
 subst e
 have ev : ((UInt32.ofNat v.toNat).toNat : Int) = v := by rw [UInt32.toNat_ofNat']; omega
 have e2 : bj (l.set o (UInt32.ofNat v.toNat)) = (bj l).set o (.int .u32 v) := by
  unfold bj; rw [List.map_set, ev]
 unfold la
 rw [e2, List.map_set]
 rfl
theorem ox (l : List UInt32) (n o m : Nat) (hn : n = l.length) (ho : o = 0) (hm : m = n * 1) : D.slice n (((bj l).drop o).take m) = sl l := by
 subst hn; subst ho; subst hm
 unfold sl
 rw [List.drop_zero, List.take_of_length_le (by simp)]
theorem an.go {I : Nat → List A → List (Nat × Bool × List A) → Prop} {m : Nat} {L ks : List Nat} {σ' : St} (xs' : List A) (h' : List (Nat × Bool × List A)) (cut : σ'.cut L ks xs' h') (inv : ∃ m', I m' xs' h' ∧ m' < m) : an I m L ks σ' :=
 inv.elim fun m' h => ⟨m', xs', h', cut, h.2, h.1⟩
theorem cj (x : UInt32) : IntKind.u64.wrap x.toNat = (x.toNat : Int) := wrap_u64 (by omega) (by have := bd x; omega)
theorem agj (x y : Nat) (h : x + y < 18446744073709551616) : IntKind.u64.wrap (↑x + ↑y) = ((x + y : Nat) : Int) := by rw [wrap_u64 (by omega) (by omega)]; omega
theorem ar4 (x y : Nat) (h : x * y < 18446744073709551616) : IntKind.u64.wrap (↑x * ↑y) = ((x * y : Nat) : Int) := by
 rw [← Int.natCast_mul, wrap_u64 (by omega) (by omega)]
theorem aiv (x y : Nat) (hx : x < 18446744073709551616) (hy : y ≤ 18446744073709551616) : IntKind.u64.wrap (↑x - ↑y) = (((x + 18446744073709551616 - y) % 18446744073709551616 : Nat) : Int) := by
 have e : IntKind.u64.wrap (↑x - ↑y) = if (false && decide (((x : Int) - y) % 2 ^ 64 ≥ 2 ^ 63)) = true then ((x : Int) - y) % 2 ^ 64 - 2 ^ 64 else ((x : Int) - y) % 2 ^ 64 := rfl
 rw [e, if_neg (by simp)]
 omega
theorem l4 (x k : Nat) (e : Int) (b : Nat) (he : (2 : Int) ^ min e.toNat b = ((k : Nat) : Int)) : (x : Int).fdiv (2 ^ min e.toNat b) = ((x / k : Nat) : Int) := by
 rw [he, Int.fdiv_eq_ediv_of_nonneg _ (by omega)]; rfl
theorem a01 (x : Nat) : (x : Int).fdiv (2 ^ min (Int.toNat 63) IntKind.u64.bits) = ((x / 9223372036854775808 : Nat) : Int) := l4 x 9223372036854775808 63 64 (by decide)
theorem j8 (x : Nat) : IntKind.u32.wrap x = ((x % 4294967296 : Nat) : Int) := by rw [wrap_u32]; omega
theorem amw (x : Nat) (h : x < 18446744073709551616) : IntKind.u64.wrap x = ((x : Nat) : Int) := wrap_u64 (by omega) (by omega)
theorem qx (x : Nat) (h : x < 9223372036854775808) : IntKind.i64.wrap x = (x : Int) := aj (by omega) (by omega)
theorem ax (x : Nat) (h : x < 9223372036854775807) : IntKind.i64.wrap (↑x + 1) = ((x + 1 : Nat) : Int) := by rw [aj (by omega) (by omega)]; omega
theorem ld (l : List UInt32) (o j v : Nat) (e : o = j) (hj : j < l.length) (h1 : v < 4294967296) :
  setAt (la l) o (A.cells (.d (.int .u32 v))) = la (l.set j (UInt32.ofNat v)) := by
 have := a3f l o j v e hj (by omega) (by omega)
 rwa [Int.toNat_natCast] at this
theorem toNat_ofNat {v : Nat} (h : v < 4294967296) : (UInt32.ofNat v).toNat = v := by rw [UInt32.toNat_ofNat']; omega
theorem lu (p v : Nat) : p * (v % 4294967296) + 4294967296 * p * (v / 4294967296) = p * v := by
 rw [Nat.mul_comm 4294967296 p, Nat.mul_assoc, ← Nat.mul_add]; congr 1; omega
theorem oh {l : List UInt32} {i : Nat} (h : l.length ≤ i) : (l.getD i 0).toNat = 0 := by simp [List.getD, List.getElem?_eq_none h]
theorem ay (l : List UInt32) (i : Nat) : nv (l.take (i + 1)) = nv (l.take i) + Pw i * (l.getD i 0).toNat := by
 by_cases h : i < l.length
 ·exact abv l i h
 ·rw [oh (by omega), List.take_of_length_le (by omega), List.take_of_length_le (by omega)]; rfl
theorem mo {l : List UInt32} {i v : Nat} (h : i < l.length) (h0 : (l.getD i 0).toNat = 0) (hv : v < 4294967296) : nv (l.set i (UInt32.ofNat v)) = nv l + Pw i * v := by
 have := agq l i (UInt32.ofNat v) h
 rw [h0, toNat_ofNat hv] at this
 omega
theorem getD_set_ne {l : List UInt32} {i j : Nat} {v : UInt32} (h : i ≠ j) : ((l.set i v).getD j 0) = l.getD j 0 := by
 simp [List.getD, List.getElem?_set, h]
theorem iy (n j : Nat) : ((List.replicate n (0 : UInt32)).getD j 0).toNat = 0 := by
 rw [abu, bo, Nat.zero_div]
theorem max_eq (x y : Int) : (if true = true then (if y > x then y else x) else (if y < x then y else x)) = max x y := by
 rw [if_pos rfl]; omega
theorem ako (x y : Nat) : (if true = true then (if (y : Int) > x then (y : Int) else x) else (if (y : Int) < x then (y : Int) else x)) = ((max x y : Nat) : Int) := by
 rw [if_pos rfl]; omega
theorem min_eq (x y : Int) : (if false = true then (if y > x then y else x) else (if y < x then y else x)) = min x y := by
 rw [if_neg (by decide)]; omega
theorem all_nil (ks : List Nat) : List.all ([] : List (Nat × Bool × List A)) (fun x => A.a6 ks x.2.2) = true := rfl
theorem bm (ks : List Nat) (k : Nat) (f : Bool) (l : List UInt32) (h : List (Nat × Bool × List A)) (H : h.all (fun x => A.a6 ks x.2.2) = true) : List.all ((k, f, la l) :: h) (fun x => A.a6 ks x.2.2) = true := by
 rw [List.all_cons, H, la, A.dd]; rfl
theorem cp (i : Nat) : 0 + (i : Int).toNat * 1 = i := by simp
theorem bw (x : Int) : 0 + x.toNat * 1 = x.toNat := by simp
theorem ib (l : List UInt32) (i : Nat) (h : i < l.length) : ((bj l).drop ((i : Int).toNat * 1))[0]? = some (.int .u32 (l.getD i 0).toNat) := by
 rw [Int.toNat_natCast]; exact dw l i h
theorem EqE.idW {k : IntKind} {n : Int} {K : Int → Prop} (h : EqE (IntKind.wrap k n) K) : EqE (IntKind.wrap k n) K := h
theorem EqE.idS {l : List A} {o : Nat} {c : List A} {K : List A → Prop} (h : EqE (setAt l o c) K) : EqE (setAt l o c) K := h
theorem EqE.idR {l : List A} {n : Nat} {K : List A → Prop} (h : EqE (jb n l) K) : EqE (jb n l) K := h
theorem EqE.idI {c : Bool} {x y : Int} {K : Int → Prop} (h : EqE (if c = true then (if y > x then y else x) else (if y < x then y else x)) K) : EqE (if c = true then (if y > x then y else x) else (if y < x then y else x)) K := h
theorem EqE.idL {n : Nat} {l : List D} {K : D → Prop} (h : EqE (D.slice n l) K) : EqE (D.slice n l) K := h
theorem EqE.idF {x y : Int} {K : Int → Prop} (h : EqE (Int.fdiv x y) K) : EqE (Int.fdiv x y) K := h
theorem EqE.idA {a b : List A} {K : List A → Prop} (h : EqE (a ++ b) K) : EqE (a ++ b) K := h
theorem a3e (a b : List UInt32) : la a ++ (bj b).map A.d = la (a ++ b) := by simp [la, bj]
theorem a0l (b : List UInt32) : [] ++ (bj b).map A.d = la b := rfl
def nb (n : Nat) : Nat := if n = 0 then 0 else n.log2 + 1
theorem uf {n k : Nat} : nb n ≤ k ↔ n < 2 ^ k := by
 unfold nb
 split
 ·rename_i h; subst h; exact ⟨fun _ => Nat.two_pow_pos k, fun _ => Nat.zero_le _⟩
 ·rename_i h; rw [← Nat.log2_lt h]; omega
theorem axm (n : Nat) : n < 2 ^ nb n := uf.1 (Nat.le_refl _)
theorem axl {n : Nat} (h : n ≠ 0) : 2 ^ (nb n - 1) ≤ n := by
 have h1 : ¬ nb n ≤ nb n - 1 := by unfold nb; rw [if_neg h]; omega
 rw [uf] at h1; omega
theorem a46 {n k : Nat} (h1 : 2 ^ k ≤ n) (h2 : n < 2 ^ (k + 1)) : nb n = k + 1 := by
 have h3 := uf.2 h2
 have h4 : ¬ nb n ≤ k := by rw [uf]; omega
 omega
theorem ac0 {n k : Nat} (h : 2 ^ k ≤ n) : nb n = k + nb (n / 2 ^ k) := by
 have h0 : n / 2 ^ k ≠ 0 := by
  exact Nat.ne_of_gt (Nat.div_pos h (Nat.two_pow_pos k))
 have h1 := axl h0
 have h2 := axm (n / 2 ^ k)
 have hp : nb (n / 2 ^ k) ≠ 0 := by
  intro e; rw [e] at h2; exact h0 (Nat.lt_one_iff.1 h2)
 have h3 : 2 ^ (k + (nb (n / 2 ^ k) - 1)) ≤ n := by
  rw [Nat.pow_add]
  exact Nat.le_trans (Nat.mul_le_mul_left _ h1) (Nat.mul_div_le _ _)
 have h4 : n < 2 ^ (k + nb (n / 2 ^ k)) := by
  rw [Nat.pow_add]
  have := Nat.lt_mul_div_succ n (Nat.two_pow_pos k)
  exact Nat.lt_of_lt_of_le this (Nat.mul_le_mul_left _ h2)
 have := a46 (k := k + (nb (n / 2 ^ k) - 1)) h3 (by rw [show k + (nb (n / 2 ^ k) - 1) + 1 = k + nb (n / 2 ^ k) by omega]; exact h4)
 omega
theorem aip (l : List UInt32) : ∀ c ∈ bj l, (A.d c).one = true := by
 intro c hc
 simp only [bj, List.mem_map] at hc
 obtain ⟨x, _, rfl⟩ := hc
 rfl
theorem a5u (x : Nat) : IntKind.u8.wrap x = ((x % 256 : Nat) : Int) := by
 have e : IntKind.u8.wrap x = if (false && decide ((x : Int) % 2 ^ 8 ≥ 2 ^ 7)) = true then (x : Int) % 2 ^ 8 - 2 ^ 8 else (x : Int) % 2 ^ 8 := rfl
 rw [e, if_neg (by simp)]
 omega
theorem a4b {n : Nat} {i : Int} (k : Nat) (h : (n == k) = true) (hi : 0 ≤ i ∧ i < k) : 0 ≤ i ∧ i < n := by
 simp only [beq_iff_eq] at h; subst h; exact hi
theorem a1w {l : List UInt8} {i : Int} (f : Nat → Nat) (k : Nat) (j : Nat) (h : ((List.range k).all fun i => (nth 0 l i).toNat == f i) = true) (hi : i = j) (hk : j < k) : (((nth 0 l i.toNat).toNat : Nat) : Int) = ((f j : Nat) : Int) := by
 subst hi
 rw [List.all_eq_true] at h
 have := h j (by simpa using hk)
 simp only [beq_iff_eq] at this
 rw [Int.toNat_natCast, this]
theorem aps {n : Nat} (h : n ≠ 0) : nb n = 32 * ((ofN n).length - 1) + nb ((ofN n).getD ((ofN n).length - 1) 0).toNat := by
 have h1 := axv (p9 n) (vq h)
 rw [aw, nf] at h1
 rw [ac0 h1, abu, aw, nf]
 congr 1
 have h2 := dc (ofN n)
 rw [aw, nf] at h2
 have hl : (ofN n).length ≠ 0 := fun e => vq h (List.eq_nil_of_length_eq_zero e)
 rw [Nat.mod_eq_of_lt]
 rw [Nat.div_lt_iff_lt_mul (Nat.two_pow_pos _)]
 have : 2 ^ (32 * (ofN n).length) = 4294967296 * 2 ^ (32 * ((ofN n).length - 1)) := by
  rw [show 32 * (ofN n).length = 32 + 32 * ((ofN n).length - 1) by omega, Nat.pow_add]
 omega
theorem vo {a b : List UInt32} (j : Nat) (h : nv (a.drop j) < nv (b.drop j)) : nv a < nv b := by
 rw [eb, eb] at h
 exact Nat.lt_of_not_le fun h' => absurd (Nat.div_le_div_right (c := Pw j) h') (by omega)
def u5 (a b : Nat) : Int := if a < b then -1 else if a = b then 0 else 1
theorem mc {a b : Nat} (h : a < b) : u5 a b = -1 := by unfold u5; rw [if_pos h]
theorem aa2 {a b : Nat} (h : b < a) : u5 a b = 1 := by unfold u5; rw [if_neg (by omega), if_neg (by omega)]
theorem ajy {a b : Nat} (h : a = b) : u5 a b = 0 := by unfold u5; rw [if_neg (by omega), if_pos h]
theorem a2a (x y : Nat) (hx : x < 18446744073709551616) (hy : y < 18446744073709551616) : IntKind.u64.wrap (BitVec.ofInt IntKind.u64.bits x &&& BitVec.ofInt IntKind.u64.bits y).toNat = ((x &&& y : Nat) : Int) := by
 have h : x &&& y ≤ x := Nat.and_le_left
 have e : ∀ z : Nat, z < 18446744073709551616 → (BitVec.ofInt 64 (z : Int)).toNat = z := by
  intro z hz; rw [BitVec.toNat_ofInt]; omega
 show IntKind.u64.wrap ((BitVec.ofInt 64 (x : Int) &&& BitVec.ofInt 64 (y : Int)).toNat : Int) = _
 rw [BitVec.toNat_and, e x hx, e y hy, wrap_u64 (by omega) (by omega)]
theorem apn (x : Nat) (hx : x < 18446744073709551616) : IntKind.u64.wrap (BitVec.ofInt IntKind.u64.bits x &&& BitVec.ofInt IntKind.u64.bits 1).toNat = ((x % 2 : Nat) : Int) := by
 rw [← Nat.and_one_is_mod]; exact a2a x 1 hx (by decide)
theorem a3j (x : Nat) (hx : x < 18446744073709551616) : IntKind.u64.wrap (BitVec.ofInt IntKind.u64.bits x &&& BitVec.ofInt IntKind.u64.bits 4294967295).toNat = ((x % 4294967296 : Nat) : Int) := by
 rw [show x % 4294967296 = x &&& 4294967295 from (Nat.and_two_pow_sub_one_eq_mod x 32).symm]; exact a2a x 4294967295 hx (by decide)
theorem axh (x y : Nat) (hx : x < 18446744073709551616) (hy : y < 18446744073709551616) : IntKind.u64.wrap (BitVec.ofInt IntKind.u64.bits x ||| BitVec.ofInt IntKind.u64.bits y).toNat = ((x ||| y : Nat) : Int) := by
 have e : ∀ z : Nat, z < 18446744073709551616 → (BitVec.ofInt 64 (z : Int)).toNat = z := by
  intro z hz; rw [BitVec.toNat_ofInt]; omega
 have h : x ||| y < 2 ^ 64 := Nat.or_lt_two_pow hx hy
 show IntKind.u64.wrap ((BitVec.ofInt 64 (x : Int) ||| BitVec.ofInt 64 (y : Int)).toNat : Int) = _
 rw [BitVec.toNat_or, e x hx, e y hy, wrap_u64 (by omega) (by omega)]
theorem ar6 (x s : Nat) (hs : s ≤ 64) (h : x * 2 ^ s < 18446744073709551616) : IntKind.u64.wrap (↑x * 2 ^ min (s : Int).toNat IntKind.u64.bits) = ((x * 2 ^ s : Nat) : Int) := by
 have e : min (s : Int).toNat IntKind.u64.bits = s := by
  show min (s : Int).toNat 64 = s
  omega
 rw [e, show (x : Int) * 2 ^ s = ((x * 2 ^ s : Nat) : Int) by simp, wrap_u64 (by omega) (by omega)]
theorem acz (x s : Nat) (hs : s ≤ 64) : (x : Int).fdiv (2 ^ min (s : Int).toNat IntKind.u64.bits) = ((x / 2 ^ s : Nat) : Int) := by
 have e : min (s : Int).toNat IntKind.u64.bits = s := by
  show min (s : Int).toNat 64 = s
  omega
 rw [e, Int.fdiv_eq_ediv_of_nonneg _ (by exact Int.le_of_lt (Int.pow_pos (by decide)))]
 simp
theorem agk (x y : Nat) (hx : x < 9223372036854775808) : IntKind.i64.wrap ((x : Int).tdiv y) = ((x / y : Nat) : Int) := by
 have e : (x : Int).tdiv y = ((x / y : Nat) : Int) := by rw [Int.tdiv_eq_ediv_of_nonneg (by omega)]; rfl
 have := Nat.div_le_self x y
 rw [e]
 generalize x / y = q at *
 rw [aj (by omega) (by omega)]
theorem ad0 (x y : Nat) : ((x : Int).tmod y) = ((x % y : Nat) : Int) := by
 rw [Int.tmod_eq_emod_of_nonneg (by omega)]; rfl
theorem a0r (x : Int) : (if true = true then (if (0 : Int) > x then 0 else x) else (if 0 < x then 0 else x)) = ((x.toNat : Nat) : Int) := by
 rw [if_pos rfl]; omega
theorem EqE.idM {x y : Int} {K : Int → Prop} (h : EqE (Int.tmod x y) K) : EqE (Int.tmod x y) K := h
theorem aly {p x y c v : Nat} (hx : x < 4294967296) (hy : y < 4294967296) (hc : c ≤ 1) (hv : v = ((x + 18446744073709551616 - y) % 18446744073709551616 + 18446744073709551616 - c) % 18446744073709551616) :
  p * (v % 4294967296) + p * y + p * c = p * x + 4294967296 * p * (v / 4294967296 % 2) := by
 have h : v % 4294967296 + y + c = x + 4294967296 * (v / 4294967296 % 2) := by omega
 rw [Nat.mul_comm 4294967296 p, Nat.mul_assoc, ← Nat.mul_add, ← Nat.mul_add, ← Nat.mul_add, h]
theorem aho {p x y c v : Nat} (hx : x < 4294967296) (hy : y < 4294967296) (hc : c ≤ 1) (hv : v = ((x + 18446744073709551616 - y) % 18446744073709551616 + 18446744073709551616 - c) % 18446744073709551616) :
  p * (v % 4294967296) + p * y + p * c = p * x + 4294967296 * p * (v / 9223372036854775808) := by
 have h : v % 4294967296 + y + c = x + 4294967296 * (v / 9223372036854775808) := by omega
 rw [Nat.mul_comm 4294967296 p, Nat.mul_assoc, ← Nat.mul_add, ← Nat.mul_add, ← Nat.mul_add, h]
theorem apw (l : List UInt32) (i : Nat) : nv (l.take i) ≤ nv l := by rw [xp]; exact Nat.mod_le _ _
theorem abq (x : Nat) (h : x < 4294967296) : IntKind.u64.wrap (↑x * 2 ^ min (Int.toNat 32) IntKind.u64.bits) = ((x * 4294967296 : Nat) : Int) := ar6 x 32 (by decide) (by omega)
theorem ahd {x s : Nat} (hx : x < 4294967296) (hs : s < 32) : x * 2 ^ s < 9223372036854775808 := by
 have h1 : 2 ^ s ≤ 2 ^ 31 := Nat.pow_le_pow_right (by decide) (by omega)
 have h2 := Nat.mul_le_mul_left x h1
 omega
theorem adj {y s : Nat} (hy : y < 4294967296) (hs : s < 32) : y * 2 ^ s / 4294967296 < 2 ^ s := by
 rw [Nat.div_lt_iff_lt_mul (by decide), Nat.mul_comm]
 exact Nat.mul_lt_mul_of_pos_left hy (Nat.two_pow_pos s)
theorem ap0 {x c s : Nat} (h : c < 2 ^ s) : x * 2 ^ s ||| c = x * 2 ^ s + c := by
 rw [Nat.mul_comm, Nat.two_pow_add_eq_or_of_lt h]
theorem am6 {x y : Nat} (h : x < 4294967296) : x ||| y * 4294967296 = x + y * 4294967296 := by
 have := Nat.two_pow_add_eq_or_of_lt (i := 32) h y
 rw [Nat.or_comm, Nat.mul_comm, show (4294967296 : Nat) = 2 ^ 32 from rfl, ← this, Nat.add_comm]
theorem as7 {x c s : Nat} (hs : s < 32) (h : c < 2 ^ s) : (x * 2 ^ s + c) / 4294967296 = x * 2 ^ s / 4294967296 := by
 have e : (4294967296 : Nat) = 2 ^ s * 2 ^ (32 - s) := by rw [← Nat.pow_add, show s + (32 - s) = 32 by omega]
 rw [e, ← Nat.div_div_eq_div_mul, ← Nat.div_div_eq_div_mul, Nat.mul_comm x, Nat.mul_add_div (Nat.two_pow_pos s), Nat.div_eq_of_lt h, Nat.mul_div_cancel_left _ (Nat.two_pow_pos s), Nat.add_zero]
theorem w6 (q s : Nat) : Pw q * 2 ^ s = 2 ^ (32 * q + s) := by rw [nf, Nat.pow_add]
theorem afs {x y z s : Nat} (hs : s < 32) : (x + y * 4294967296) / 2 ^ s % 4294967296 = (x + 4294967296 * (y + 4294967296 * z)) / 2 ^ s % 4294967296 := by
 have e : (4294967296 : Nat) = 2 ^ s * 2 ^ (32 - s) := by rw [← Nat.pow_add, show s + (32 - s) = 32 by omega]
 have h : x + 4294967296 * (y + 4294967296 * z) = (x + y * 4294967296) + 2 ^ s * (4294967296 * (2 ^ (32 - s) * z)) := by
  have : 4294967296 * (4294967296 * z) = 2 ^ s * (4294967296 * (2 ^ (32 - s) * z)) := by
   conv => lhs; rw [show 4294967296 * (4294967296 * z) = 4294967296 * z * 4294967296 by grind]; rhs; rw [e]
   grind
  omega
 rw [h, Nat.add_mul_div_left _ _ (Nat.two_pow_pos s), Nat.add_mul_mod_self_left]
theorem gw (l : List UInt32) (i : Nat) : nv (l.drop i) = (l.getD i 0).toNat + 4294967296 * nv (l.drop (i + 1)) := by
 by_cases h : i < l.length
 ·exact jo l i h
 ·rw [List.drop_eq_nil_of_le (by omega), List.drop_eq_nil_of_le (by omega), oh (by omega)]; rfl
def tzn (n : Nat) : Nat := if h : n = 0 then 0 else if n % 2 = 1 then 0 else tzn (n / 2) + 1
termination_by n
decreasing_by omega
theorem alf {n : Nat} (h : n % 2 = 1) : tzn n = 0 := by rw [tzn, dif_neg (by omega), if_pos h]
theorem an8 {n : Nat} (h0 : n ≠ 0) : tzn (2 * n) = tzn n + 1 := by
 rw [tzn, dif_neg (by omega), if_neg (by omega), Nat.mul_div_cancel_left _ (by decide)]
theorem aji (k : Nat) {n : Nat} (h0 : n ≠ 0) : tzn (2 ^ k * n) = k + tzn n := by
 induction k with
 | zero => simp
 | succ k ih =>
  rw [Nat.pow_succ, Nat.mul_comm (2 ^ k), Nat.mul_assoc, an8 (Nat.mul_ne_zero (Nat.ne_of_gt (Nat.two_pow_pos k)) h0), ih]; omega
theorem ur (n : Nat) (h : n ≠ 0) : ∃ m, m % 2 = 1 ∧ n = 2 ^ tzn n * m := by
 induction n using Nat.strongRecOn with
 | _ n ih =>
  by_cases h1 : n % 2 = 1
  ·exact ⟨n, h1, by rw [alf h1]; simp⟩
  ·obtain ⟨m, hm, he⟩ := ih (n / 2) (by omega) (by omega)
   refine ⟨m, hm, ?_⟩
   have : n = 2 * (n / 2) := by omega
   conv => lhs; rw [this, he]
   conv => rhs; rw [this, an8 (by omega), Nat.pow_succ, Nat.mul_comm (2 ^ _) 2, Nat.mul_assoc]
theorem a1y {a b k : Nat} (ha : a ≠ 0) (hk : a < 2 ^ k) : tzn (a + 2 ^ k * b) = tzn a := by
 obtain ⟨m, hm, he⟩ := ur a ha
 have hlt : tzn a < k := by
  refine (Nat.pow_lt_pow_iff_right (a := 2) (by decide)).1 (Nat.lt_of_le_of_lt ?_ hk)
  have := Nat.mul_le_mul_left (2 ^ tzn a) (show 1 ≤ m by omega)
  omega
 have e : a + 2 ^ k * b = 2 ^ tzn a * (m + 2 * (2 ^ (k - tzn a - 1) * b)) := by
  have : 2 ^ k = 2 ^ tzn a * (2 * 2 ^ (k - tzn a - 1)) := by
   rw [← Nat.pow_succ', ← Nat.pow_add]; congr 1; omega
  rw [this, Nat.mul_add, ← he]
  grind
 have h2 : tzn (m + 2 * (2 ^ (k - tzn a - 1) * b)) = 0 := alf (by generalize 2 ^ (k - tzn a - 1) * b = z; omega)
 have h3 : m + 2 * (2 ^ (k - tzn a - 1) * b) ≠ 0 := by generalize 2 ^ (k - tzn a - 1) * b = z; omega
 conv => lhs; rw [e]
 rw [aji _ h3, h2]; rfl
theorem adm {n k : Nat} (h0 : n ≠ 0) (h : n < 2 ^ k) : tzn n < k := by
 obtain ⟨m, hm, he⟩ := ur n h0
 refine (Nat.pow_lt_pow_iff_right (a := 2) (by decide)).1 (Nat.lt_of_le_of_lt ?_ h)
 have := Nat.mul_le_mul_left (2 ^ tzn n) (show 1 ≤ m by omega)
 omega
theorem a0p (k : Nat) : ∀ w n : Nat, n < 2 ^ w → n % 2 = 1 → 2 ^ k * n &&& 2 ^ k * (2 ^ w - n) = 2 ^ k := by
 intro w n hw hn
 have h1 : n &&& (2 ^ w - n) = 1 := by
  apply Nat.eq_of_testBit_eq
  intro i
  have h2 : 2 ^ w - n = 2 ^ w - ((n - 1) + 1) := by omega
  rw [Nat.testBit_and, h2, Nat.testBit_two_pow_sub_succ (by omega)]
  cases i with
  | zero =>
   have h3 : 0 < w := by cases w with | zero => simp at hw; omega | succ _ => omega
   simp [Nat.testBit_zero, hn, h3]; omega
  | succ i =>
   have h4 : (n - 1).testBit (i + 1) = n.testBit (i + 1) := by
    rw [Nat.testBit_succ, Nat.testBit_succ, show (n - 1) / 2 = n / 2 by omega]
   rw [h4]
   cases n.testBit (i + 1) <;> simp [Nat.testBit_succ]
 apply Nat.eq_of_testBit_eq
 intro j
 have h5 := congrArg (fun z => z.testBit (j - k)) h1
 simp only [Nat.testBit_and] at h5
 simp only [Nat.testBit_and, Nat.testBit_two_pow_mul, Nat.testBit_two_pow]
 by_cases hj : k ≤ j
 ·simp only [ge_iff_le, hj, decide_true, Bool.true_and, h5]
  rw [Bool.eq_iff_iff, Nat.testBit_one_eq_true_iff_self_eq_zero, decide_eq_true_iff]
  omega
 ·simp [hj]; omega
theorem a0z (x : Nat) (hx : x < 4294967296) : IntKind.u32.wrap (0 - ↑x) = (((4294967296 - x) % 4294967296 : Nat) : Int) := by rw [wrap_u32]; omega
theorem a0y (x y : Nat) : IntKind.u32.wrap (↑x * ↑y) = ((x * y % 4294967296 : Nat) : Int) := by rw [wrap_u32, ← Int.natCast_mul]; omega
theorem a0x (x : Nat) (h0 : x ≠ 0) (hx : x < 4294967296) : IntKind.u32.wrap (BitVec.ofInt IntKind.u32.bits x &&& BitVec.ofInt IntKind.u32.bits (((4294967296 - x) % 4294967296 : Nat) : Int)).toNat = ((2 ^ tzn x : Nat) : Int) := by
 have e : ∀ z : Nat, z < 4294967296 → (BitVec.ofInt 32 (z : Int)).toNat = z := by
  intro z hz; rw [BitVec.toNat_ofInt]; omega
 show IntKind.u32.wrap ((BitVec.ofInt 32 (x : Int) &&& BitVec.ofInt 32 (((4294967296 - x) % 4294967296 : Nat) : Int)).toNat : Int) = _
 have hlt := adm (k := 32) h0 hx
 have h : x &&& ((4294967296 - x) % 4294967296) = 2 ^ tzn x := by
  rw [Nat.mod_eq_of_lt (by omega)]
  obtain ⟨m, hm, he⟩ := ur x h0
  have e2 : (4294967296 : Nat) = 2 ^ tzn x * 2 ^ (32 - tzn x) := by rw [← Nat.pow_add, show tzn x + (32 - tzn x) = 32 by omega]
  have h3 : 4294967296 - x = 2 ^ tzn x * (2 ^ (32 - tzn x) - m) := by rw [Nat.mul_sub, ← e2, ← he]
  have h4 : m < 2 ^ (32 - tzn x) := by
   refine (Nat.mul_lt_mul_left (Nat.two_pow_pos (tzn x))).1 ?_
   rw [← he, ← e2]; exact hx
  rw [h3]
  conv => lhs; lhs; rw [he]
  exact a0p _ _ _ h4 hm
 rw [BitVec.toNat_and, e x hx, e _ (Nat.mod_lt _ (by decide)), h, wrap_u32]
 have := Nat.pow_lt_pow_right (a := 2) (by decide) hlt
 omega
theorem ad7 {n : Nat} (h : n ≠ 0) (i : Nat) (hi : i ≤ tzn n) : n.testBit i = decide (i = tzn n) := by
 obtain ⟨m, hm, he⟩ := ur n h
 generalize tzn n = t at *
 rw [he, Nat.testBit_two_pow_mul]
 by_cases e : i = t
 ·subst e; simp [Nat.testBit_zero, hm]
 ·simp [e, show ¬ t ≤ i by omega]
def deB : List UInt8 := [0, 1, 28, 2, 29, 14, 24, 3, 30, 22, 20, 15, 25, 17, 4, 8, 31, 27, 13, 23, 21, 19, 16, 7, 26, 12, 18, 6, 11, 5, 10, 9]
def a2y : List D := deB.map fun x => .int .u8 x.toNat
theorem az2 : ((List.range 32).all fun t => (nth 0 deB (2 ^ t * 125613361 % 4294967296 / 134217728)).toNat == t) = true := by kernel_rfl
theorem a2z (t : Nat) (h : t < 32) : (nth 0 deB (2 ^ t * 125613361 % 4294967296 / 134217728)).toNat = t := by
 have := (List.all_eq_true.1 az2) t (by simpa using h)
 simpa using this
theorem av8 (x : Nat) : x % 4294967296 / 134217728 < 32 := Nat.div_lt_of_lt_mul (Nat.mod_lt _ (by decide))
theorem az3 (t j : Nat) (hj : j < 32) (h : (nth 0 deB j).toNat = t) : (a2y.drop ((j : Int).toNat * 1))[0]? = some (.int .u8 t) := by
 have h3 : deB.length = 32 := rfl
 rw [Int.toNat_natCast, Nat.mul_one]
 simp only [a2y, List.getElem?_drop, Nat.add_zero, List.getElem?_map]
 rw [akq (d := (0 : UInt8)) (show j < deB.length by omega), Option.map_some, h]
theorem axi (x s : Nat) (hs : s ≤ 32) : (x : Int).fdiv (2 ^ min (s : Int).toNat IntKind.u32.bits) = ((x / 2 ^ s : Nat) : Int) := by
 have e : min (s : Int).toNat IntKind.u32.bits = s := by
  show min (s : Int).toNat 32 = s
  omega
 rw [e, Int.fdiv_eq_ediv_of_nonneg _ (by exact Int.le_of_lt (Int.pow_pos (by decide)))]
 simp
theorem y0 (x : Nat) (hx : x < 4294967296) : IntKind.u32.wrap (BitVec.ofInt IntKind.u32.bits x &&& BitVec.ofInt IntKind.u32.bits 1).toNat = ((x % 2 : Nat) : Int) := by
 have e : (BitVec.ofInt 32 (x : Int)).toNat = x := by rw [BitVec.toNat_ofInt]; omega
 show IntKind.u32.wrap ((BitVec.ofInt 32 (x : Int) &&& BitVec.ofInt 32 1).toNat : Int) = _
 rw [BitVec.toNat_and, e, show (BitVec.ofInt 32 1).toNat = 1 from rfl, Nat.and_one_is_mod, wrap_u32]; omega
theorem a3k (x y : Nat) (hx : x < 4294967296) (hy : y < 4294967296) : IntKind.u32.wrap (BitVec.ofInt IntKind.u32.bits x ||| BitVec.ofInt IntKind.u32.bits y).toNat = ((x ||| y : Nat) : Int) := by
 have e : ∀ z : Nat, z < 4294967296 → (BitVec.ofInt 32 (z : Int)).toNat = z := by
  intro z hz; rw [BitVec.toNat_ofInt]; omega
 have h : x ||| y < 2 ^ 32 := Nat.or_lt_two_pow hx hy
 show IntKind.u32.wrap ((BitVec.ofInt 32 (x : Int) ||| BitVec.ofInt 32 (y : Int)).toNat : Int) = _
 rw [BitVec.toNat_or, e x hx, e y hy, wrap_u32]; omega
theorem as8 {x s : Nat} (hs : s < 32) : x * 2 ^ s % 4294967296 = 2 ^ s * (x % 2 ^ (32 - s)) := by
 have e : (4294967296 : Nat) = 2 ^ s * 2 ^ (32 - s) := by rw [← Nat.pow_add, show s + (32 - s) = 32 by omega]
 rw [e, Nat.mul_comm x, Nat.mul_mod_mul_left]
theorem a3v {x o s : Nat} (hs : s < 32) (ho : o < 2 ^ s) : o ||| x * 2 ^ s % 4294967296 = o + x * 2 ^ s % 4294967296 := by
 rw [as8 hs, Nat.or_comm, ← Nat.two_pow_add_eq_or_of_lt ho]; omega
theorem aos {x o s : Nat} (hs : s < 32) (ho : o < 2 ^ s) : o + x * 2 ^ s % 4294967296 < 4294967296 := by
 have h1 : x * 2 ^ s % 4294967296 + 2 ^ s ≤ 4294967296 := by
  have e : (4294967296 : Nat) = 2 ^ s * 2 ^ (32 - s) := by rw [← Nat.pow_add, show s + (32 - s) = 32 by omega]
  rw [as8 hs, ← Nat.mul_succ]
  conv => rhs; rw [e]
  exact Nat.mul_le_mul_left _ (Nat.mod_lt _ (Nat.two_pow_pos _))
 omega
theorem a00 (x o s : Nat) (hs : s < 32) (ho : o < 2 ^ s) (ho2 : o < 4294967296) : IntKind.u32.wrap (BitVec.ofInt IntKind.u32.bits o ||| BitVec.ofInt IntKind.u32.bits ((x * 2 ^ s % 4294967296 : Nat) : Int)).toNat = ((o + x * 2 ^ s % 4294967296 : Nat) : Int) := by
 rw [a3k _ _ ho2 (Nat.mod_lt _ (by decide)), a3v hs ho]
theorem ahl (l : List UInt32) (i : Nat) : (nv l).testBit i = decide ((l.getD (i / 32) 0).toNat / 2 ^ (i % 32) % 2 = 1) := by
 rw [Nat.testBit_eq_decide_div_mod_eq, abu]
 congr 2
 have h1 : i = 32 * (i / 32) + i % 32 := (Nat.div_add_mod _ _).symm
 have hs : i % 32 < 32 := Nat.mod_lt _ (by decide)
 conv => lhs; rw [h1]
 rw [Nat.pow_add, ← nf, ← Nat.div_div_eq_div_mul]
 generalize nv l / Pw (i / 32) = M
 generalize i % 32 = s at *
 have e : (4294967296 : Nat) = 2 ^ s * (2 * 2 ^ (31 - s)) := by rw [← Nat.pow_succ', ← Nat.pow_add, show s + (31 - s + 1) = 32 by omega]
 rw [e, Nat.mod_mul_right_div_self, Nat.mod_mul_right_mod]
theorem a19 (n : Int) (h : n ≤ 100000) : (if true = true then (if min n 100000 > 0 then min n 100000 else 0) else (if min n 100000 < 0 then min n 100000 else 0)) = ((n.toNat : Nat) : Int) := by
 rw [if_pos rfl]; omega
theorem auy (l : List UInt32) (q : Nat) (h : q ≤ l.length) : D.slice ((l.length : Int) - (q : Int)).toNat (((bj l).drop ((q : Int).toNat * 1)).take (((l.length : Int) - (q : Int)).toNat * 1)) = sl (l.drop q) := by
 rw [ahf l q l.length (by omega) (by omega) (by omega), List.take_of_length_le (by rw [List.length_drop]; omega), Int.toNat_natCast]
theorem n6 {l : List UInt32} {i : Nat} {v : UInt32} (h : i < l.length) : ((l.set i v).getD i 0) = v := by
 rw [List.getD_eq_getElem?_getD, List.getElem?_set_self h]; rfl
theorem azx {a b : Nat} : u5 a b ≥ 0 ↔ b ≤ a := by
 unfold u5
 split
 ·constructor <;> intro h <;> first | (simp at h; done) | omega
 ·split <;> constructor <;> intro h <;> first | omega | simp
end Go.Ev

namespace Go.Ev
open Go
def zv (b : Bool) (l : List UInt32) : Int := if b then -(nv l : Int) else nv l
def a7 (n : Int) : Bool := decide (n < 0)
def zD (n : Int) : D := .agg [.bool (a7 n), sl (ofN n.natAbs)]
theorem nw (b : Bool) (l : List UInt32) : (zv b l).natAbs = nv l := by unfold zv; split <;> omega
theorem ace (b : Bool) (l : List UInt32) : a7 (zv b l) = (b && decide (0 < nv l)) := by
 unfold a7 zv; cases b
 ·simp
 ·simp
theorem p7 (n : Int) : zv (a7 n) (ofN n.natAbs) = n := by
 unfold zv a7; rw [aw]
 by_cases h : n < 0
 ·simp [h]; omega
 ·simp [h]; omega
theorem aol (l : List UInt32) : zv false l = nv l := rfl
theorem ae7 (l : List UInt32) : zv true l = -(nv l : Int) := rfl
theorem a2n {c b : Bool} {l : List UInt32} (h : c = (b && decide (0 < nv l))) : D.agg [.bool c, sl (ofN (nv l))] = zD (zv b l) := by
 unfold zD; rw [ace, nw, h]
def Zt (h : Nat) (n : Int) : Prop := n.natAbs < 2 ^ h
theorem Zt.mono {a b : Nat} {n : Int} (h : Zt a n) (hab : a ≤ b) : Zt b n := Nat.lt_of_lt_of_le h (Nat.pow_le_pow_right (by decide) hab)
theorem Zt.add {a b c : Nat} {m n : Int} (hm : Zt a m) (hn : Zt b n) (h : max a b < c) : Zt c (m + n) := by
 have h1 : Zt (max a b) m := hm.mono (by omega)
 have h2 : Zt (max a b) n := hn.mono (by omega)
 have h3 : 2 ^ (max a b + 1) ≤ 2 ^ c := Nat.pow_le_pow_right (by decide) h
 unfold Zt at *
 rw [Nat.pow_succ] at h3
 omega
theorem Zt.neg {a : Nat} {m : Int} (hm : Zt a m) : Zt a (-m) := by unfold Zt at *; omega
theorem Zt.sub {a b c : Nat} {m n : Int} (hm : Zt a m) (hn : Zt b n) (h : max a b < c) : Zt c (m - n) := by
 rw [Int.sub_eq_add_neg]; exact hm.add hn.neg h
theorem Zt.mul {a b c : Nat} {m n : Int} (hm : Zt a m) (hn : Zt b n) (h : a + b ≤ c) : Zt c (m * n) := by
 refine Zt.mono (a := a + b) ?_ h
 unfold Zt at *
 rw [Int.natAbs_mul, Nat.pow_add]
 exact Nat.mul_lt_mul'' hm hn
theorem Zt.shl {a k c : Nat} {m : Int} (hm : Zt a m) (h : a + k ≤ c) : Zt c (m * 2 ^ k) := by
 refine Zt.mono (a := a + k) ?_ h
 unfold Zt at *
 rw [Int.natAbs_mul, Int.natAbs_pow, Nat.pow_add]
 exact Nat.mul_lt_mul_of_pos_right hm (Nat.pow_pos (by decide))
theorem Zt.le {a : Nat} {m n : Int} (hm : Zt a m) (h : n.natAbs ≤ m.natAbs) : Zt a n := Nat.lt_of_le_of_lt h hm
theorem Zt.len {k h : Nat} {n : Int} (e : h ≤ 32 * k) (hn : Zt h n) : (ofN n.natAbs).length ≤ k := by
 rw [b5, nf]
 exact hn.mono e
theorem Zt.agr {k h : Nat} {b : Bool} {l : List UInt32} (hl : l.length ≤ k) (e : 32 * k ≤ h) : Zt h (zv b l) := by
 unfold Zt
 rw [nw]
 have := dc l
 rw [nf] at this
 exact Nat.lt_of_lt_of_le this (Nat.pow_le_pow_right (by decide) (by omega))
theorem Zt.small {h : Nat} {n : Int} (e : n.natAbs < 18446744073709551616) (hh : 64 ≤ h) : Zt h n := Nat.lt_of_lt_of_le e (Nat.pow_le_pow_right (n := 2) (i := 64) (by decide) hh)
theorem Zt.tz {k : Nat} {m : Int} (h : Zt k m) (h0 : m ≠ 0) : tzn m.natAbs < k := adm (by omega) h
theorem Zt.nb {k : Nat} {m : Int} (h : Zt k m) : nb m.natAbs ≤ k := uf.2 h
inductive ZR : D → Int → Prop where
 | mk (b : Bool) (l : List UInt32) (h : l.length ≤ 4194304) : ZR (.agg [.bool b, sl l]) (zv b l)
theorem ZR.of {n : Int} (h : Zt 134217728 n) : ZR (zD n) n := by
 have h2 := ZR.mk (a7 n) (ofN n.natAbs) (h.len (by decide))
 rw [p7] at h2
 exact h2
def ak : Dyadic → Int
 | .zero => 0
 | .ofOdd n _ _ => n
def av : Dyadic → Int
 | .zero => 0
 | .ofOdd _ k _ => -k
def dyD (q : Dyadic) : D := .agg [.bool (a7 (ak q)), sl (ofN (ak q).natAbs), .int .i64 (av q)]
def dof (m e : Int) : Dyadic := Dyadic.ofIntWithPrec m (-e)
theorem bu (q : Dyadic) : dof (ak q) (av q) = q := by
 cases q with
 | zero => rfl
 | ofOdd n k h => simp only [dof, ak, av, Int.neg_neg]; exact Dyadic.ofOdd_eq_ofIntWithPrec.symm
theorem og (e : Int) : dof 0 e = 0 := rfl
theorem lq (m e : Int) : (dof m e).toRat = m * 2 ^ e := by
 unfold dof; rw [Dyadic.toRat_ofIntWithPrec_eq_mul_two_pow, Int.neg_neg]
theorem a4h : (2 : Rat) ≠ 0 := by decide
theorem fw (m e : Int) (k : Nat) : dof (m * 2 ^ k) e = dof m (e + k) := by
 have h := Dyadic.ofIntWithPrec_shiftLeft_add (x := m) (i := -(e + k)) (n := k)
 rw [Int.shiftLeft_eq] at h
 unfold dof
 rw [← h, show -(e + (k : Int)) + k = -e by omega]
theorem aeo (m n e : Int) : dof m e + dof n e = dof (m + n) e := by
 rw [← Dyadic.toRat_inj, Dyadic.toRat_add, lq, lq, lq, Rat.intCast_add, Rat.add_mul]
theorem n5 (m e : Int) : -dof m e = dof (-m) e := Dyadic.neg_ofIntWithPrec
theorem pf (m n e : Int) : dof m e - dof n e = dof (m - n) e := by
 rw [Int.sub_eq_add_neg, ← aeo, ← n5]; rfl
theorem o9 (m n e f : Int) : dof m e * dof n f = dof (m * n) (e + f) := by
 rw [← Dyadic.toRat_inj, Dyadic.toRat_mul, lq, lq, lq, Rat.intCast_mul, Rat.zpow_add a4h]
 grind
theorem az6 {s e : Int} (h : s % 2 = 1) : dof s e = .ofOdd s (-e) h := Dyadic.ofOdd_eq_ofIntWithPrec.symm
theorem al4 {m e : Int} : dof m e = 0 ↔ m = 0 := by
 constructor
 ·intro h
  by_cases h0 : m = 0
  ·exact h0
  ·simp [dof, Dyadic.ofIntWithPrec, h0] at h
 ·intro h; rw [h]; rfl
theorem yn : ak 0 = 0 := rfl
theorem ah8 : av 0 = 0 := rfl
theorem fh {q : Dyadic} : ak q = 0 ↔ q = 0 := by
 constructor
 ·intro h; rw [← bu q, h]; rfl
 ·intro h; rw [h]; rfl
theorem al3 {q : Dyadic} (h : q ≠ 0) : ak q % 2 = 1 := by
 cases q with
 | zero => exact absurd rfl h
 | ofOdd n k h1 => exact h1
theorem az8 {p q : Dyadic} (h1 : ak p = ak q) (h2 : av p = av q) : p = q := by rw [← bu p, ← bu q, h1, h2]
theorem atb {m : Int} (h : m ≠ 0) : ∃ s : Int, s % 2 = 1 ∧ m = s * 2 ^ tzn m.natAbs := by
 obtain ⟨k, hk, he⟩ := ur m.natAbs (by omega)
 rcases Int.natAbs_eq m with h1 | h1
 ·refine ⟨k, by omega, ?_⟩
  have : ((m.natAbs : Nat) : Int) = ((2 ^ tzn m.natAbs * k : Nat) : Int) := congrArg _ he
  rw [h1, Int.natAbs_natCast, this, Int.natCast_mul, Int.natCast_pow, Int.mul_comm]; rfl
 ·refine ⟨-k, by omega, ?_⟩
  have : ((m.natAbs : Nat) : Int) = ((2 ^ tzn m.natAbs * k : Nat) : Int) := congrArg _ he
  rw [h1, Int.natAbs_neg, Int.natAbs_natCast, this, Int.natCast_mul, Int.natCast_pow, Int.mul_comm, Int.neg_mul]; rfl
theorem nh {m : Int} (e : Int) (h : m ≠ 0) : a7 (ak (dof m e)) = a7 m ∧ (ak (dof m e)).natAbs = m.natAbs / 2 ^ tzn m.natAbs ∧ av (dof m e) = e + tzn m.natAbs := by
 obtain ⟨s, hs, hm⟩ := atb h
 have h1 : dof m e = .ofOdd s (-(e + tzn m.natAbs)) hs := by
  rw [← az6 hs, ← fw, ← hm]
 have hp : (0 : Int) < 2 ^ tzn m.natAbs := Int.pow_pos (by decide)
 rw [h1]
 refine ⟨?_, ?_, ?_⟩
 ·simp only [ak, a7]
  conv => rhs; rw [hm]
  refine decide_eq_decide.2 ?_
  constructor
  ·intro h; exact Int.mul_neg_of_neg_of_pos h hp
  ·intro h
   rcases Int.lt_or_le s 0 with h2 | h2
   ·exact h2
   ·have := Int.mul_nonneg h2 (Int.le_of_lt hp); omega
 ·simp only [ak]
  have h2 : m.natAbs = s.natAbs * 2 ^ tzn m.natAbs := by
   have := congrArg Int.natAbs hm
   rw [Int.natAbs_mul, Int.natAbs_pow] at this
   exact this
  generalize tzn m.natAbs = t at h2
  rw [h2, Nat.mul_div_cancel _ (Nat.pow_pos (by decide))]
 ·simp only [av, Int.neg_neg]
theorem aj9 {m : Int} (e : Int) (h : m ≠ 0) : D.agg [.bool (a7 m), sl (ofN (m.natAbs / 2 ^ tzn m.natAbs)), .int .i64 (e + tzn m.natAbs)] = dyD (dof m e) := by
 obtain ⟨h1, h2, h3⟩ := nh e h
 unfold dyD
 rw [h1, h2, h3]
theorem tq : D.agg [.bool false, sl [], .int .i64 0] = dyD 0 := by
 unfold dyD
 rw [yn, ah8, show ofN (Int.natAbs 0) = [] from bh]; rfl
theorem aj7 (p q : Dyadic) : dof (ak p * 2 ^ (av p - min (av p) (av q)).toNat + ak q * 2 ^ (av q - min (av p) (av q)).toNat) (min (av p) (av q)) = p + q := by
 rw [← aeo, fw, fw, show min (av p) (av q) + ((av p - min (av p) (av q)).toNat : Nat) = av p by omega, show min (av p) (av q) + ((av q - min (av p) (av q)).toNat : Nat) = av q by omega, bu, bu]
theorem ale (e : Int) : (0 : Rat) < 2 ^ e := Rat.zpow_pos (by decide)
theorem pd {m e : Int} : 0 < dof m e ↔ 0 < m := by
 rw [← Dyadic.toRat_lt_toRat_iff, lq, Dyadic.toRat_zero]
 have h := ale e
 constructor
 ·intro h1
  rcases Int.lt_or_le 0 m with h2 | h2
  ·exact h2
  ·exfalso
   have h3 : (m : Rat) ≤ 0 := by have := Rat.intCast_le_intCast.2 h2; simpa using this
   have h4 : (m : Rat) * 2 ^ e ≤ 0 := by
    have := Rat.mul_le_mul_of_nonneg_right h3 (Rat.le_of_lt h)
    rwa [Rat.zero_mul] at this
   grind
 ·intro h1
  have h2 : (0 : Rat) < m := by have := Rat.intCast_lt_intCast.2 h1; simpa using this
  exact Rat.mul_pos h2 h
theorem ru {m e : Int} : dof m e < 0 ↔ m < 0 := by
 have h := pd (m := -m) (e := e)
 rw [← n5] at h
 constructor
 ·intro h1; have : 0 < -dof m e := by grind
  have := h.1 this; omega
 ·intro h1; have := h.2 (by omega); grind
theorem aa6 {q : Dyadic} : 0 < ak q ↔ 0 < q := by conv => rhs; rw [← bu q, pd]
theorem j5 {q : Dyadic} : ak q < 0 ↔ q < 0 := by conv => rhs; rw [← bu q, ru]
theorem mg {m n e : Int} : dof m e < dof n e ↔ m < n := by
 have h := pd (m := n - m) (e := e)
 rw [← pf] at h
 constructor
 ·intro h1; have := h.1 (by grind); omega
 ·intro h1; have := h.2 (by omega); grind
theorem ack {m n e : Int} : dof m e ≤ dof n e ↔ m ≤ n := by
 have h := mg (m := n) (n := m) (e := e)
 rw [← Int.not_lt, ← h]; grind
theorem aj6 {m n e : Int} : dof m e = dof n e ↔ m = n := by
 have h := al4 (m := m - n) (e := e)
 rw [← pf] at h
 constructor
 ·intro h1; have := h.1 (by grind); omega
 ·intro h1; rw [h1]
def dsg (q : Dyadic) : Int := Int.sign (ak q)
theorem awi {q : Dyadic} : dsg q < 0 ↔ q < 0 := by unfold dsg; rw [Int.sign_neg_iff, j5]
theorem awh {q : Dyadic} : dsg q > 0 ↔ 0 < q := by unfold dsg; show 0 < _ ↔ _; rw [Int.sign_pos_iff, aa6]
theorem jj {q : Dyadic} : dsg q = 0 ↔ q = 0 := by unfold dsg; rw [Int.sign_eq_zero_iff_zero, fh]
theorem afw {q : Dyadic} : dsg q ≤ 0 ↔ q ≤ 0 := by
 have := awh (q := q)
 rw [← Int.not_lt]; show ¬ (dsg q > 0) ↔ _; rw [this]; grind
theorem afv {q : Dyadic} : dsg q ≥ 0 ↔ 0 ≤ q := by
 have := awi (q := q)
 show 0 ≤ _ ↔ _
 rw [← Int.not_lt, this]; grind
theorem az7 (m e : Int) : dsg (dof m e) = Int.sign m := by
 rcases Int.lt_trichotomy m 0 with h | h | h
 ·rw [Int.sign_eq_neg_one_of_neg h]; exact Int.sign_eq_neg_one_of_neg (j5.2 (ru.2 h))
 ·rw [h]; rfl
 ·rw [Int.sign_eq_one_of_pos h]; exact Int.sign_eq_one_of_pos (aa6.2 (pd.2 h))
def gz (q : Dyadic) : Dyadic := dof (ak q).natAbs (av q)
theorem av6 (m e : Int) : gz (dof m e) = dof m.natAbs e := by
 by_cases h : m = 0
 ·rw [h]; rfl
 ·obtain ⟨_, h2, h3⟩ := nh e h
  unfold gz
  rw [h2, h3]
  obtain ⟨s, hs, hm⟩ := atb h
  have h4 : m.natAbs = s.natAbs * 2 ^ tzn m.natAbs := by
   have := congrArg Int.natAbs hm
   rw [Int.natAbs_mul, Int.natAbs_pow] at this
   exact this
  generalize tzn m.natAbs = t at h4
  rw [h4, Nat.mul_div_cancel _ (Nat.pow_pos (by decide)), Int.natCast_mul, Int.natCast_pow, show ((2 : Nat) : Int) = 2 from rfl, fw]
theorem jm (q : Dyadic) : gz q = if q < 0 then -q else q := by
 unfold gz
 split
 ·rename_i h
  have h := j5.2 h
  rw [show ((ak q).natAbs : Int) = -ak q by omega, ← n5, bu]
 ·rename_i h
  have h : ¬ ak q < 0 := fun h2 => h (j5.1 h2)
  rw [show ((ak q).natAbs : Int) = ak q by omega, bu]
theorem atn (q : Dyadic) : ak (-q) = -ak q := by cases q <;> rfl
theorem av9 (q : Dyadic) : av (-q) = av q := by cases q <;> rfl
def db (q : Dyadic) : Int := if ak q = 0 then 0 else av q + nb (ak q).natAbs - 1
def Ht (h : Nat) (q : Dyadic) : Prop := ∃ n : Int, Zt (2 * h) n ∧ q = dof n (-h)
theorem Ht.mono {a b : Nat} {q : Dyadic} (h : Ht a q) (hab : a ≤ b) : Ht b q := by
 obtain ⟨n, h1, rfl⟩ := h
 refine ⟨n * 2 ^ (b - a), h1.shl (by omega), ?_⟩
 rw [fw]; congr 1; omega
theorem Ht.add {a b c : Nat} {p q : Dyadic} (hp : Ht a p) (hq : Ht b q) (h : max a b < c) : Ht c (p + q) := by
 obtain ⟨m, h1, rfl⟩ := hp.mono (show a ≤ max a b by omega)
 obtain ⟨n, h2, rfl⟩ := hq.mono (show b ≤ max a b by omega)
 refine Ht.mono (a := max a b + 1) ?_ (by omega)
 refine ⟨(m + n) * 2 ^ 1, ?_, ?_⟩
 ·exact (h1.add h2 (c := 2 * max a b + 1) (by omega)).shl (by omega)
 ·rw [aeo, fw]; congr 1; omega
theorem Ht.neg {a : Nat} {p : Dyadic} (hp : Ht a p) : Ht a (-p) := by
 obtain ⟨m, h1, rfl⟩ := hp
 exact ⟨-m, h1.neg, n5 _ _⟩
theorem Ht.sub {a b c : Nat} {p q : Dyadic} (hp : Ht a p) (hq : Ht b q) (h : max a b < c) : Ht c (p - q) := hp.add hq.neg h
theorem Ht.mul {a b c : Nat} {p q : Dyadic} (hp : Ht a p) (hq : Ht b q) (h : a + b ≤ c) : Ht c (p * q) := by
 obtain ⟨m, h1, rfl⟩ := hp
 obtain ⟨n, h2, rfl⟩ := hq
 refine Ht.mono (a := a + b) ⟨m * n, h1.mul h2 (by omega), ?_⟩ h
 rw [o9]; congr 1; omega
theorem Ht.dof {a b h : Nat} {m e : Int} (hm : Zt a m) (h1 : -b ≤ e) (h2 : e ≤ b) (hab : a + b ≤ h) : Ht h (dof m e) := by
 refine ⟨m * 2 ^ (e + h).toNat, hm.shl (by omega), ?_⟩
 rw [fw]; congr 1; omega
theorem Ht.zero (h : Nat) : Ht h 0 := ⟨0, Nat.pow_pos (by decide), rfl⟩
theorem Ht.parts {h : Nat} {q : Dyadic} (hq : Ht h q) : Zt (2 * h) (ak q) ∧ -(h : Int) ≤ av q ∧ av q ≤ h := by
 obtain ⟨n, h1, rfl⟩ := hq
 by_cases h0 : n = 0
 ·subst h0; exact ⟨Nat.pow_pos (by decide), by show -(h : Int) ≤ 0; omega, by show (0 : Int) ≤ h; omega⟩
 ·obtain ⟨_, h2, h3⟩ := nh (-h : Int) h0
  have h4 : tzn n.natAbs < 2 * h := adm (by omega) h1
  refine ⟨?_, by omega, by omega⟩
  unfold Zt
  rw [h2]
  exact Nat.lt_of_le_of_lt (Nat.div_le_self _ _) h1
theorem Ht.abs {a : Nat} {p : Dyadic} (hp : Ht a p) : Ht a (gz p) := by
 rw [jm]; split
 ·exact hp.neg
 ·exact hp
theorem Ht.one : Ht 1 1 := ⟨2, Nat.lt_of_lt_of_le (show Int.natAbs 2 < 4 by decide) (by decide), rfl⟩
theorem Ht.pow {a : Nat} {p : Dyadic} (hp : Ht a p) : ∀ i : Nat, Ht (a * i + 1) (p ^ i)
 | 0 => by rw [Dyadic.pow_zero]; exact Ht.one
 | i + 1 => by rw [Dyadic.pow_succ]; exact (Ht.pow hp i).mul hp (by rw [Nat.mul_succ]; omega)
theorem Ht.i64 {n : Int} (h1 : -9223372036854775808 ≤ n) (h2 : n ≤ 9223372036854775807) : Ht 64 (Go.Ev.dof n 0) :=
 Ht.dof (a := 64) (b := 0) (Zt.small (by omega) (by decide)) (by decide) (by decide) (by decide)
theorem Ht.cst {m e : Int} (h : decide (m.natAbs ≤ 1000 ∧ -100 ≤ e ∧ e ≤ 100) = true) : Ht 164 (Go.Ev.dof m e) := by
 have h := of_decide_eq_true h
 exact Ht.dof (a := 64) (b := 100) (Zt.small (by omega) (by decide)) (by omega) (by omega) (by decide)
inductive DyR : D → Dyadic → Prop where
 | mk (b : Bool) (l : List UInt32) (e : Int) (hl : l.length ≤ 65536) (h1 : -1048576 ≤ e) (h2 : e ≤ 1048576) (hq : Ht 1048576 (dof (zv b l) e)) : DyR (.agg [.bool b, sl l, .int .i64 e]) (dof (zv b l) e)
theorem DyR.of {q : Dyadic} (h : Ht 1048576 q) : DyR (dyD q) q := by
 obtain ⟨h1, h2, h3⟩ := h.parts
 have h4 := DyR.mk (a7 (ak q)) (ofN (ak q).natAbs) (av q) (h1.len (by decide)) (by omega) (by omega)
 rw [p7, bu] at h4
 exact h4 h
theorem DyR.ht {x : D} {q : Dyadic} (h : DyR x q) : Ht 1048576 q := by cases h; assumption
theorem DyR.parts {x : D} {q : Dyadic} (h : DyR x q) : Zt 2097152 (ak q) ∧ -1048576 ≤ av q ∧ av q ≤ 1048576 := h.ht.parts
theorem Zt.iff {h : Nat} {n : Int} : Zt h n ↔ n.natAbs < 2 ^ h := Iff.rfl
attribute [irreducible] Zt
end Go.Ev
