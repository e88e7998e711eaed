/- Contracts of the given functions, on data. Conditions stand in each theorem. -/
import Derived.Test.YtdpjainjjpjldaaDoorGEvK
import Derived.Test.YtdpjainjjpjldaaDoorGAtDq
set_option linter.unusedSimpArgs false
set_option linter.unusedVariables false
-- STR
namespace Go.Ev.Ar
open Go Go.Ev Go.Proofs Go.RowKit
theorem ai0 {x : D} {m : Int} (n : Nat) (hx : ZR x m) (hn : n ≤ 1000) : Sim Tryd.prog G0 false 18 [x, .int .i64 n] (zD (m * 2 ^ n)) := by
 obtain ⟨b, l, hl⟩ := hx
 have hlen := ajw (n := (n : Int)) (j := 262144) hl (by omega)
 rw [Int.toNat_natCast] at hlen
 have s1 := ae4 l (n : Int) (by omega) (by omega)
 rw [Int.toNat_natCast] at s1
 refine cl ay Tryd.func18 ?_
 repeat' ((conv => whnf); first | refine aw.data ?_ | refine cE s1 ?_ | refine cE (ot _ _ (by omega)) ?_ | refine rgE ?_ | refine Cd.mk rfl ?_ | refine Br.t ?_ | refine Br.f ?_ | with_reducible refine Br.eqd ?_ | with_reducible refine Br.eqb ?_ | with_reducible refine Br.dec (fun _ => ?_) (fun _ => ?_) | with_reducible refine Br.br (fun _ => ?_) (fun _ => ?_) | refine Br.mk (fun _ => ?_) (fun _ => ?_) | refine ao.mk _ rfl ?_ | refine And.intro (fun _ => ?_) ?_ | (refine TkE.fL ?_; (conv => whnf); fail_if_success (show ag _ _)) | refine TkE.mk _ rfl rfl ?_ | refine Res.mk ?_ | refine a8.mk (by repeat first | exact True.intro | refine And.intro (by kernel_rfl) ?_) ?_ | refine DsE.mk [] rfl ?_ | refine ai.cu _ _ ?_ | ((with_reducible refine EqE.idT ?_); first | ((conv => arg 1; simp only [ak, List.toList_toArray, an, ae, aa, Int.toNat_natCast, Int.toNat_zero, Int.toNat_one, b4, b5, List.drop_zero, Nat.sub_zero, List.cons_append, List.nil_append]); refine EqE.mk _ rfl ?_) | refine EqE.mk _ rfl ?_) | ((with_reducible refine EqE.idP ?_); first | ((conv => arg 1; simp only [ak, List.toList_toArray, bz, b3]); refine EqE.mk _ rfl ?_) | refine EqE.mk _ rfl ?_) | ((with_reducible refine EqE.idN ?_); first | ((conv => arg 1; simp only [ak, List.toList_toArray, aa, bb, Int.toNat_natCast, Int.toNat_zero, Int.toNat_one, List.length_cons, List.length_nil, Nat.zero_add]); refine EqE.mk _ rfl ?_)) | ((with_reducible refine EqE.idW ?_); first | with_reducible refine EqE.mk _ (a7 _ (by omega)) ?_ | with_reducible refine EqE.mk _ (ar _ (by omega)) ?_ | refine EqE.mk _ (ah (by omega) (by omega)) ?_ | refine EqE.mk _ rfl ?_) | ((with_reducible refine EqE.idM ?_); refine EqE.mk _ rfl ?_) | ((with_reducible refine EqE.idI ?_); first | refine EqE.mk _ (max_eq _ _) ?_ | refine EqE.mk _ (min_eq _ _) ?_) | ((with_reducible refine EqE.idS ?_); first | (refine EqE.fP ?_; (conv => whnf); fail_if_success (show ag _ _)) | refine EqE.mk _ rfl ?_) | ((with_reducible refine EqE.idL ?_); first | refine EqE.mk _ (ax _ _ _ _ (by omega) (by omega) rfl) ?_ | refine EqE.mk _ rfl ?_) | refine EqE.mk _ rfl ?_ | refine Cd.ro ?_ | refine Cd.dc ?_ | refine Cd.ob ?_ | refine Cd.ol ?_ | refine Cd.mk ⟨rfl, rfl⟩ ?_ | refine Cd.os ?_ | refine Cd.mk ?_ ?_ | refine DsE.mk [_] rfl ?_ | refine DsE.mk [_, _, _] rfl ?_)
 show zD _ = zD (zv b (ofN (nv l * 2 ^ n)))
 rw [ame]
theorem aj2 (i : Nat) : (⟨(List.replicate i (48 : UInt8)).toArray⟩ : ByteArray) ++ ⟨#[48]⟩ = ⟨(List.replicate (i + 1) (48 : UInt8)).toArray⟩ := by
 rw [show (⟨#[48]⟩ : ByteArray) = bst [48] from fp [48], fp, fp, an, List.replicate_succ']
def xH (v : Int) : List A := [.d (.bool (dm v)), .d (sl (ofN v.natAbs))]
set_option exponentiation.threshold 1000 in
set_option maxHeartbeats 4000000 in
theorem vg (l : List UInt32) (neg : Bool) (n : Int) (hl : l.length ≤ 9223372036854775807) (hn : 0 ≤ n ∧ n ≤ 255) : Sim Tryd.prog G0 true 5 [sl l, .bool neg, .int .u8 n] (.bool true) := by
 have k1 := qc
 by_cases c1 : 16 < l.length
 ·refine cl ay Tryd.func5 ?_
  repeat' ((conv => whnf); first | refine aw.data ?_ | refine cE k1 ?_ | with_reducible refine Br.bt fun _ => ?_ | with_reducible refine Br.bf fun _ => ?_ | refine rgE ?_ | refine Cd.mk rfl ?_ | refine Br.t ?_ | refine Br.f ?_ | with_reducible refine Br.eqd ?_ | with_reducible refine Br.eqb ?_ | with_reducible refine Br.dec (fun _ => ?_) (fun _ => ?_) | with_reducible refine Br.br (fun _ => ?_) (fun _ => ?_) | refine Br.mk (fun _ => ?_) (fun _ => ?_) | refine ao.mk _ rfl ?_ | refine And.intro (fun _ => ?_) ?_ | (refine TkE.fL ?_; (conv => whnf); fail_if_success (show ag _ _)) | refine TkE.mk _ rfl rfl ?_ | refine Res.mk ?_ | refine a8.mk (by repeat first | exact True.intro | refine And.intro (by kernel_rfl) ?_) ?_ | refine DsE.mk [] rfl ?_ | refine ai.cu _ _ ?_ | ((with_reducible refine EqE.idT ?_); first | ((conv => arg 1; simp only [ak, List.toList_toArray, an, ae, aa, Int.toNat_natCast, Int.toNat_zero, Int.toNat_one, b4, b5, List.drop_zero, Nat.sub_zero, List.cons_append, List.nil_append]); refine EqE.mk _ rfl ?_) | refine EqE.mk _ rfl ?_) | ((with_reducible refine EqE.idP ?_); first | ((conv => arg 1; simp only [ak, List.toList_toArray, bz, b3]); refine EqE.mk _ rfl ?_) | refine EqE.mk _ rfl ?_) | ((with_reducible refine EqE.idN ?_); first | ((conv => arg 1; simp only [ak, List.toList_toArray, aa, bb, Int.toNat_natCast, Int.toNat_zero, Int.toNat_one, List.length_cons, List.length_nil, Nat.zero_add]); refine EqE.mk _ rfl ?_)) | ((with_reducible refine EqE.idW ?_); first | with_reducible refine EqE.mk _ (a7 _ (by omega)) ?_ | with_reducible refine EqE.mk _ (ar _ (by omega)) ?_ | refine EqE.mk _ (ah (by omega) (by omega)) ?_ | refine EqE.mk _ rfl ?_) | ((with_reducible refine EqE.idM ?_); refine EqE.mk _ rfl ?_) | ((with_reducible refine EqE.idI ?_); first | refine EqE.mk _ (max_eq _ _) ?_ | refine EqE.mk _ (min_eq _ _) ?_) | ((with_reducible refine EqE.idS ?_); first | (refine EqE.fP ?_; (conv => whnf); fail_if_success (show ag _ _)) | refine EqE.mk _ rfl ?_) | ((with_reducible refine EqE.idL ?_); first | refine EqE.mk _ (ax _ _ _ _ (by omega) (by omega) rfl) ?_ | refine EqE.mk _ rfl ?_) | refine EqE.mk _ rfl ?_ | refine Cd.ro ?_ | refine Cd.dc ?_ | refine Cd.ob ?_ | refine Cd.ol ?_ | refine Cd.mk ⟨rfl, rfl⟩ ?_ | refine Cd.os ?_ | refine Cd.mk ?_ ?_ | refine DsE.mk [_] rfl ?_ | refine DsE.mk [_, _, _] rfl ?_)
  all_goals rfl
 have o0 := aag 0 (by omega) (by omega)
 have n0 := gf (.of (n := 0) (Zt.small (by decide) (by decide)))
 have t0 := yk l (by omega)
 have hle : (ofN (nv l)).length ≤ l.length := ee l
 have hz : ZR (.agg [.bool neg, sl (ofN (nv l))]) (zv neg (ofN (nv l))) := .mk neg _ (by omega)
 have hzt : Zt 512 (zv neg (ofN (nv l))) := Zt.adk (k := 16) (by omega) (by decide)
 have n1 := gf hz
 obtain ⟨v, hv⟩ : ∃ v, zv neg (ofN (nv l)) = v := ⟨_, rfl⟩
 rw [hv] at n1 hzt
 have hzv : ZR (zD v) v := .of (hzt.mono (by decide))
 have g0 := agj hzv
 have ht := l9 hzv (Nat.lt_of_le_of_lt (Zt.len (k := 16) (by decide) hzt) (by decide))
 have hh := zj hzv (Nat.lt_of_le_of_lt (Zt.len (k := 16) (by decide) hzt) (by decide))
 by_cases c2 : v = 0
 ·subst c2
  rw [show txt 10 (dm 0) (0 : Int).natAbs = [48] by kernel_rfl, ← fp] at ht
  rw [show txt 16 (dm 0) (0 : Int).natAbs = [48] by kernel_rfl, ← fp] at hh
  refine cl ay Tryd.func5 ?_
  repeat' ((conv => whnf); first | refine aw.data ?_ | refine cE k1 ?_ | with_reducible refine Br.bt fun _ => ?_ | with_reducible refine Br.bf fun _ => ?_ | refine cE o0 ?_ | refine cE n0 ?_ | refine cE t0 ?_ | refine cE n1 ?_ | refine cE g0 ?_ | refine cE ht ?_ | refine cE hh ?_ | refine rgE ?_ | refine Cd.mk rfl ?_ | refine Br.t ?_ | refine Br.f ?_ | with_reducible refine Br.eqd ?_ | with_reducible refine Br.eqb ?_ | with_reducible refine Br.dec (fun _ => ?_) (fun _ => ?_) | with_reducible refine Br.br (fun _ => ?_) (fun _ => ?_) | refine Br.mk (fun _ => ?_) (fun _ => ?_) | refine ao.mk _ rfl ?_ | refine And.intro (fun _ => ?_) ?_ | (refine TkE.fL ?_; (conv => whnf); fail_if_success (show ag _ _)) | refine TkE.mk _ rfl rfl ?_ | refine Res.mk ?_ | refine a8.mk (by repeat first | exact True.intro | refine And.intro (by kernel_rfl) ?_) ?_ | refine DsE.mk [] rfl ?_ | refine ai.cu _ _ ?_ | ((with_reducible refine EqE.idT ?_); first | ((conv => arg 1; simp only [ak, List.toList_toArray, an, ae, aa, Int.toNat_natCast, Int.toNat_zero, Int.toNat_one, b4, b5, List.drop_zero, Nat.sub_zero, List.cons_append, List.nil_append]); refine EqE.mk _ rfl ?_) | refine EqE.mk _ rfl ?_) | ((with_reducible refine EqE.idP ?_); first | ((conv => arg 1; simp only [ak, List.toList_toArray, bz, b3]); refine EqE.mk _ rfl ?_) | refine EqE.mk _ rfl ?_) | ((with_reducible refine EqE.idN ?_); first | ((conv => arg 1; simp only [ak, List.toList_toArray, aa, bb, Int.toNat_natCast, Int.toNat_zero, Int.toNat_one, List.length_cons, List.length_nil, Nat.zero_add]); refine EqE.mk _ rfl ?_)) | ((with_reducible refine EqE.idW ?_); first | with_reducible refine EqE.mk _ (a7 _ (by omega)) ?_ | with_reducible refine EqE.mk _ (ar _ (by omega)) ?_ | refine EqE.mk _ (ah (by omega) (by omega)) ?_ | refine EqE.mk _ rfl ?_) | ((with_reducible refine EqE.idM ?_); refine EqE.mk _ rfl ?_) | ((with_reducible refine EqE.idI ?_); first | refine EqE.mk _ (max_eq _ _) ?_ | refine EqE.mk _ (min_eq _ _) ?_) | ((with_reducible refine EqE.idS ?_); first | (refine EqE.fP ?_; (conv => whnf); fail_if_success (show ag _ _)) | refine EqE.mk _ rfl ?_) | ((with_reducible refine EqE.idL ?_); first | refine EqE.mk _ (ax _ _ _ _ (by omega) (by omega) rfl) ?_ | refine EqE.mk _ rfl ?_) | refine EqE.mk _ rfl ?_ | refine Cd.ro ?_ | refine Cd.dc ?_ | refine Cd.ob ?_ | refine Cd.ol ?_ | refine Cd.mk ⟨rfl, rfl⟩ ?_ | refine Cd.os ?_ | refine Cd.mk ?_ ?_ | refine DsE.mk [_] rfl ?_ | refine DsE.mk [_, _, _] rfl ?_)
  all_goals first | rfl | (simp only [decide_true]; rfl)
 have hs0 : Int.sign v ≠ 0 := fun h => c2 (Int.sign_eq_zero_iff_zero.1 h)
 have htm : n.tmod 8 = n % 8 := Int.tmod_eq_emod_of_nonneg hn.1
 obtain ⟨k, hk⟩ : ∃ k : Nat, n.tmod 8 = (k : Int) := ⟨(n % 8).toNat, by rw [htm]; omega⟩
 have hk3 : k < 8 := by rw [htm] at hk; omega
 have hw1 : IntKind.i64.wrap (n.tmod 8) = (k : Int) := by rw [hk, ah (by omega) (by omega)]
 refine cl ay Tryd.func5 ?_
 repeat' ((conv => whnf); first | refine aw.data ?_ | refine cE k1 ?_ | with_reducible refine Br.bt fun _ => ?_ | with_reducible refine Br.bf fun _ => ?_ | refine cE o0 ?_ | refine cE n0 ?_ | refine cE t0 ?_ | refine cE n1 ?_ | refine cE g0 ?_ | refine rgE ?_ | refine Cd.mk rfl ?_ | refine Br.t ?_ | refine Br.f ?_ | with_reducible refine Br.eqd ?_ | with_reducible refine Br.eqb ?_ | with_reducible refine Br.dec (fun _ => ?_) (fun _ => ?_) | with_reducible refine Br.br (fun _ => ?_) (fun _ => ?_) | refine Br.mk (fun _ => ?_) (fun _ => ?_) | refine ao.mk _ rfl ?_ | refine And.intro (fun _ => ?_) ?_ | (refine TkE.fL ?_; (conv => whnf); fail_if_success (show ag _ _)) | refine TkE.mk _ rfl rfl ?_ | refine Res.mk ?_ | refine a8.mk (by repeat first | exact True.intro | refine And.intro (by kernel_rfl) ?_) ?_ | refine DsE.mk [] rfl ?_ | refine ai.cu _ _ ?_ | ((with_reducible refine EqE.idT ?_); first | ((conv => arg 1; simp only [ak, List.toList_toArray, an, ae, aa, Int.toNat_natCast, Int.toNat_zero, Int.toNat_one, b4, b5, List.drop_zero, Nat.sub_zero, List.cons_append, List.nil_append]); refine EqE.mk _ rfl ?_) | refine EqE.mk _ rfl ?_) | ((with_reducible refine EqE.idP ?_); first | ((conv => arg 1; simp only [ak, List.toList_toArray, bz, b3]); refine EqE.mk _ rfl ?_) | refine EqE.mk _ rfl ?_) | ((with_reducible refine EqE.idN ?_); first | ((conv => arg 1; simp only [ak, List.toList_toArray, aa, bb, Int.toNat_natCast, Int.toNat_zero, Int.toNat_one, List.length_cons, List.length_nil, Nat.zero_add]); refine EqE.mk _ rfl ?_)) | ((with_reducible refine EqE.idW ?_); first | refine EqE.mk _ hw1 ?_ | with_reducible refine EqE.mk _ (a7 _ (by omega)) ?_ | with_reducible refine EqE.mk _ (ar _ (by omega)) ?_ | refine EqE.mk _ (ah (by omega) (by omega)) ?_ | refine EqE.mk _ rfl ?_) | ((with_reducible refine EqE.idM ?_); refine EqE.mk _ rfl ?_) | ((with_reducible refine EqE.idI ?_); first | refine EqE.mk _ (max_eq _ _) ?_ | refine EqE.mk _ (min_eq _ _) ?_) | ((with_reducible refine EqE.idS ?_); first | (refine EqE.fP ?_; (conv => whnf); fail_if_success (show ag _ _)) | refine EqE.mk _ rfl ?_) | ((with_reducible refine EqE.idL ?_); first | refine EqE.mk _ (ax _ _ _ _ (by omega) (by omega) rfl) ?_ | refine EqE.mk _ rfl ?_) | refine EqE.mk _ rfl ?_ | refine Cd.ro ?_ | refine Cd.dc ?_ | refine Cd.ob ?_ | refine Cd.ol ?_ | refine Cd.mk ⟨rfl, rfl⟩ ?_ | refine Cd.os ?_ | refine Cd.mk ?_ ?_ | refine DsE.mk [_] rfl ?_ | refine DsE.mk [_, _, _] rfl ?_)
 refine ⟨[], [6, 7, 8, 9, 10, 11], [7], fun j xs h => ∃ i : Nat, j = k - i ∧ i ≤ k ∧ xs = [.d (.bool false), .ptr 7 0, .d (.int .i64 (k : Nat)), .d (.str ⟨(List.replicate i (48 : UInt8)).toArray⟩), .d (.str ⟨(List.replicate i (48 : UInt8)).toArray⟩), .d (.int .i64 (i : Nat))] ∧ h = [(7, false, xH v)], ⟨_, _, _, ⟨.inl rfl, rfl, rfl, by first | rfl | (repeat first | exact all_nil _ | refine cz _ _ _ _ _ ?_)⟩, 0, rfl, Nat.zero_le _, rfl, rfl⟩, ?_⟩
 rintro j xs h ⟨i, rfl, hi, rfl, rfl⟩
 by_cases c3 : i < k
 ·have o1 := aag 1 (by omega) (by omega)
  have m1 := ab4 hzv (.of (n := 1) (Zt.small (by decide) (by decide)))
  rw [Int.mul_one] at m1
  have hno := aj2 i
  unfold xH
  repeat' ((conv => whnf); first | refine aw.data ?_ | with_reducible refine Br.bt fun _ => ?_ | with_reducible refine Br.bf fun _ => ?_ | refine cE o1 ?_ | refine cE m1 ?_ | refine rgE ?_ | refine Cd.mk rfl ?_ | refine Br.t ?_ | refine Br.f ?_ | with_reducible refine Br.eqd ?_ | with_reducible refine Br.eqb ?_ | with_reducible refine Br.dec (fun _ => ?_) (fun _ => ?_) | with_reducible refine Br.br (fun _ => ?_) (fun _ => ?_) | refine Br.mk (fun _ => ?_) (fun _ => ?_) | refine ao.mk _ rfl ?_ | refine And.intro (fun _ => ?_) ?_ | (refine TkE.fL ?_; (conv => whnf); fail_if_success (show ag _ _)) | refine TkE.mk _ rfl rfl ?_ | refine Res.mk ?_ | refine a8.mk (by repeat first | exact True.intro | refine And.intro (by kernel_rfl) ?_) ?_ | refine DsE.mk [] rfl ?_ | refine ai.cu _ _ ?_ | ((with_reducible refine EqE.idT ?_); first | refine EqE.mk _ hno ?_ | ((conv => arg 1; simp only [ak, List.toList_toArray, an, ae, aa, Int.toNat_natCast, Int.toNat_zero, Int.toNat_one, b4, b5, List.drop_zero, Nat.sub_zero, List.cons_append, List.nil_append]); refine EqE.mk _ rfl ?_) | refine EqE.mk _ rfl ?_) | ((with_reducible refine EqE.idP ?_); first | ((conv => arg 1; simp only [ak, List.toList_toArray, bz, b3]); refine EqE.mk _ rfl ?_) | refine EqE.mk _ rfl ?_) | ((with_reducible refine EqE.idN ?_); first | ((conv => arg 1; simp only [ak, List.toList_toArray, aa, bb, Int.toNat_natCast, Int.toNat_zero, Int.toNat_one, List.length_cons, List.length_nil, Nat.zero_add]); refine EqE.mk _ rfl ?_)) | ((with_reducible refine EqE.idW ?_); first | with_reducible refine EqE.mk _ (a7 _ (by omega)) ?_ | with_reducible refine EqE.mk _ (ar _ (by omega)) ?_ | refine EqE.mk _ (ah (by omega) (by omega)) ?_ | refine EqE.mk _ rfl ?_) | ((with_reducible refine EqE.idM ?_); refine EqE.mk _ rfl ?_) | ((with_reducible refine EqE.idI ?_); first | refine EqE.mk _ (max_eq _ _) ?_ | refine EqE.mk _ (min_eq _ _) ?_) | ((with_reducible refine EqE.idS ?_); first | (refine EqE.fP ?_; (conv => whnf); fail_if_success (show ag _ _)) | refine EqE.mk _ rfl ?_) | ((with_reducible refine EqE.idL ?_); first | refine EqE.mk _ (ax _ _ _ _ (by omega) (by omega) rfl) ?_ | refine EqE.mk _ rfl ?_) | refine EqE.mk _ rfl ?_ | refine Cd.ro ?_ | refine Cd.dc ?_ | refine Cd.ob ?_ | refine Cd.ol ?_ | refine Cd.mk ⟨rfl, rfl⟩ ?_ | refine Cd.os ?_ | refine Cd.mk ?_ ?_ | refine DsE.mk [_] rfl ?_ | refine DsE.mk [_, _, _] rfl ?_)
  exact ⟨_, ⟨i + 1, rfl, by omega, rfl, rfl⟩, by omega⟩
 obtain rfl : i = k := by omega
 have hw2 : IntKind.i64.wrap (4 * (i : Int)) = ((4 * i : Nat) : Int) := by rw [ah (by omega) (by omega)]; omega
 have q1 := ai0 (4 * i) hzv (by omega)
 obtain ⟨y, hy⟩ : ∃ y, v * 2 ^ (4 * i) = y := ⟨_, rfl⟩
 rw [hy] at q1
 have hyt : Zt 600 y := hy ▸ Zt.shl hzt (by omega)
 have hyz : ZR (zD y) y := .of (hyt.mono (by decide))
 have hzj : ∀ j, j ≤ i → Zt 600 (v * 10 ^ j) := fun j hj => by
  unfold Zt at hzt ⊢
  have h1 : (10 : Nat) ^ j ≤ 2 ^ 28 := Nat.le_trans (Nat.pow_le_pow_right (by decide) (show j ≤ 7 by omega)) (by decide)
  have h2 : (v * 10 ^ j).natAbs = v.natAbs * 10 ^ j := by rw [Int.natAbs_mul, Int.natAbs_pow]; rfl
  rw [h2]
  refine Nat.lt_of_lt_of_le (Nat.mul_lt_mul_of_lt_of_le hzt h1 (by decide)) ?_
  rw [← Nat.pow_add]
  exact Nat.pow_le_pow_right (by decide) (by omega)
 unfold xH
 repeat' ((conv => whnf); first | refine aw.data ?_ | with_reducible refine Br.bt fun _ => ?_ | with_reducible refine Br.bf fun _ => ?_ | refine cE q1 ?_ | refine rgE ?_ | refine Cd.mk rfl ?_ | refine Br.t ?_ | refine Br.f ?_ | with_reducible refine Br.eqd ?_ | with_reducible refine Br.eqb ?_ | with_reducible refine Br.dec (fun _ => ?_) (fun _ => ?_) | with_reducible refine Br.br (fun _ => ?_) (fun _ => ?_) | refine Br.mk (fun _ => ?_) (fun _ => ?_) | refine ao.mk _ rfl ?_ | refine And.intro (fun _ => ?_) ?_ | (refine TkE.fL ?_; (conv => whnf); fail_if_success (show ag _ _)) | refine TkE.mk _ rfl rfl ?_ | refine Res.mk ?_ | refine a8.mk (by repeat first | exact True.intro | refine And.intro (by kernel_rfl) ?_) ?_ | refine DsE.mk [] rfl ?_ | refine ai.cu _ _ ?_ | ((with_reducible refine EqE.idT ?_); first | ((conv => arg 1; simp only [ak, List.toList_toArray, an, ae, aa, Int.toNat_natCast, Int.toNat_zero, Int.toNat_one, b4, b5, List.drop_zero, Nat.sub_zero, List.cons_append, List.nil_append]); refine EqE.mk _ rfl ?_) | refine EqE.mk _ rfl ?_) | ((with_reducible refine EqE.idP ?_); first | ((conv => arg 1; simp only [ak, List.toList_toArray, bz, b3]); refine EqE.mk _ rfl ?_) | refine EqE.mk _ rfl ?_) | ((with_reducible refine EqE.idN ?_); first | ((conv => arg 1; simp only [ak, List.toList_toArray, aa, bb, Int.toNat_natCast, Int.toNat_zero, Int.toNat_one, List.length_cons, List.length_nil, Nat.zero_add]); refine EqE.mk _ rfl ?_)) | ((with_reducible refine EqE.idW ?_); first | refine EqE.mk _ hw2 ?_ | with_reducible refine EqE.mk _ (a7 _ (by omega)) ?_ | with_reducible refine EqE.mk _ (ar _ (by omega)) ?_ | refine EqE.mk _ (ah (by omega) (by omega)) ?_ | refine EqE.mk _ rfl ?_) | ((with_reducible refine EqE.idM ?_); refine EqE.mk _ rfl ?_) | ((with_reducible refine EqE.idI ?_); first | refine EqE.mk _ (max_eq _ _) ?_ | refine EqE.mk _ (min_eq _ _) ?_) | ((with_reducible refine EqE.idS ?_); first | (refine EqE.fP ?_; (conv => whnf); fail_if_success (show ag _ _)) | refine EqE.mk _ rfl ?_) | ((with_reducible refine EqE.idL ?_); first | refine EqE.mk _ (ax _ _ _ _ (by omega) (by omega) rfl) ?_ | refine EqE.mk _ rfl ?_) | refine EqE.mk _ rfl ?_ | refine Cd.ro ?_ | refine Cd.dc ?_ | refine Cd.ob ?_ | refine Cd.ol ?_ | refine Cd.mk ⟨rfl, rfl⟩ ?_ | refine Cd.os ?_ | refine Cd.mk ?_ ?_ | refine DsE.mk [_] rfl ?_ | refine DsE.mk [_, _, _] rfl ?_)
 refine ⟨[], [6, 7, 8, 9, 10, 12, 13, 14], [13, 12, 7], fun m xs h => ∃ j : Nat, m = i - j ∧ j ≤ i ∧ xs = [.d (.bool false), .ptr 7 0, .d (.int .i64 (i : Nat)), .d (.str ⟨(List.replicate i (48 : UInt8)).toArray⟩), .d (.str ⟨(List.replicate i (48 : UInt8)).toArray⟩), .ptr 12 0, .ptr 13 0, .d (.int .i64 (j : Nat))] ∧ h = [(13, false, xH (v * 10 ^ j)), (12, false, xH y), (7, false, xH v)], ⟨_, _, _, ⟨.inl rfl, rfl, rfl, by first | rfl | (repeat first | exact all_nil _ | refine cz _ _ _ _ _ ?_)⟩, 0, rfl, Nat.zero_le _, rfl, ?_⟩, ?_⟩
 ·rw [Int.pow_zero, Int.mul_one]; rfl
 rintro m xs h ⟨j, rfl, hj, rfl, rfl⟩
 have hjt := hzj j hj
 by_cases c4 : j < i
 ·have o1 := aag 10 (by omega) (by omega)
  have m1 := ab4 (.of (n := v * 10 ^ j) (hjt.mono (by decide))) (.of (n := 10) (Zt.small (by decide) (by decide)))
  rw [show v * 10 ^ j * 10 = v * 10 ^ (j + 1) by rw [Int.pow_succ, Int.mul_assoc]] at m1
  generalize v * 10 ^ j = z at m1 hjt
  unfold xH
  repeat' ((conv => whnf); first | refine aw.data ?_ | with_reducible refine Br.bt fun _ => ?_ | with_reducible refine Br.bf fun _ => ?_ | refine cE o1 ?_ | refine cE m1 ?_ | refine rgE ?_ | refine Cd.mk rfl ?_ | refine Br.t ?_ | refine Br.f ?_ | with_reducible refine Br.eqd ?_ | with_reducible refine Br.eqb ?_ | with_reducible refine Br.dec (fun _ => ?_) (fun _ => ?_) | with_reducible refine Br.br (fun _ => ?_) (fun _ => ?_) | refine Br.mk (fun _ => ?_) (fun _ => ?_) | refine ao.mk _ rfl ?_ | refine And.intro (fun _ => ?_) ?_ | (refine TkE.fL ?_; (conv => whnf); fail_if_success (show ag _ _)) | refine TkE.mk _ rfl rfl ?_ | refine Res.mk ?_ | refine a8.mk (by repeat first | exact True.intro | refine And.intro (by kernel_rfl) ?_) ?_ | refine DsE.mk [] rfl ?_ | refine ai.cu _ _ ?_ | ((with_reducible refine EqE.idT ?_); first | ((conv => arg 1; simp only [ak, List.toList_toArray, an, ae, aa, Int.toNat_natCast, Int.toNat_zero, Int.toNat_one, b4, b5, List.drop_zero, Nat.sub_zero, List.cons_append, List.nil_append]); refine EqE.mk _ rfl ?_) | refine EqE.mk _ rfl ?_) | ((with_reducible refine EqE.idP ?_); first | ((conv => arg 1; simp only [ak, List.toList_toArray, bz, b3]); refine EqE.mk _ rfl ?_) | refine EqE.mk _ rfl ?_) | ((with_reducible refine EqE.idN ?_); first | ((conv => arg 1; simp only [ak, List.toList_toArray, aa, bb, Int.toNat_natCast, Int.toNat_zero, Int.toNat_one, List.length_cons, List.length_nil, Nat.zero_add]); refine EqE.mk _ rfl ?_)) | ((with_reducible refine EqE.idW ?_); first | with_reducible refine EqE.mk _ (a7 _ (by omega)) ?_ | with_reducible refine EqE.mk _ (ar _ (by omega)) ?_ | refine EqE.mk _ (ah (by omega) (by omega)) ?_ | refine EqE.mk _ rfl ?_) | ((with_reducible refine EqE.idM ?_); refine EqE.mk _ rfl ?_) | ((with_reducible refine EqE.idI ?_); first | refine EqE.mk _ (max_eq _ _) ?_ | refine EqE.mk _ (min_eq _ _) ?_) | ((with_reducible refine EqE.idS ?_); first | (refine EqE.fP ?_; (conv => whnf); fail_if_success (show ag _ _)) | refine EqE.mk _ rfl ?_) | ((with_reducible refine EqE.idL ?_); first | refine EqE.mk _ (ax _ _ _ _ (by omega) (by omega) rfl) ?_ | refine EqE.mk _ rfl ?_) | refine EqE.mk _ rfl ?_ | refine Cd.ro ?_ | refine Cd.dc ?_ | refine Cd.ob ?_ | refine Cd.ol ?_ | refine Cd.mk ⟨rfl, rfl⟩ ?_ | refine Cd.os ?_ | refine Cd.mk ?_ ?_ | refine DsE.mk [_] rfl ?_ | refine DsE.mk [_, _, _] rfl ?_)
  exact ⟨_, ⟨j + 1, rfl, by omega, rfl, rfl⟩, by omega⟩
 obtain rfl : j = i := by omega
 have e1 : dm (v * 10 ^ j) = dm v := by
  unfold dm
  have hp : (0 : Int) < 10 ^ j := Int.pow_pos (by decide)
  by_cases h : v < 0
  ·rw [decide_eq_true h, decide_eq_true (Int.mul_neg_of_neg_of_pos h hp)]
  ·rw [decide_eq_false h, decide_eq_false (by have := Int.mul_nonneg (show 0 ≤ v by omega) (Int.le_of_lt hp); omega)]
 have e2 : dm y = dm v := by
  rw [← hy]
  unfold dm
  have hp : (0 : Int) < 2 ^ (4 * j) := Int.pow_pos (by decide)
  by_cases h : v < 0
  ·rw [decide_eq_true h, decide_eq_true (Int.mul_neg_of_neg_of_pos h hp)]
  ·rw [decide_eq_false h, decide_eq_false (by have := Int.mul_nonneg (show 0 ≤ v by omega) (Int.le_of_lt hp); omega)]
 have e3 : (v * 10 ^ j).natAbs = v.natAbs * 10 ^ j := by rw [Int.natAbs_mul, Int.natAbs_pow]; rfl
 have e4 : y.natAbs = v.natAbs * 16 ^ j := by rw [← hy, Int.natAbs_mul, Int.natAbs_pow, Nat.pow_mul]; rfl
 have h1 := l9 (.of (n := v * 10 ^ j) (hjt.mono (by decide))) (Nat.lt_of_le_of_lt (Zt.len (k := 19) (by decide) hjt) (by decide))
 have h2 := zj hyz (Nat.lt_of_le_of_lt (Zt.len (k := 19) (by decide) hyt) (by decide))
 rw [e1, e3, tm (by omega) (by omega)] at h1
 rw [e2, e4, tm (by omega) (by omega)] at h2
 have h3 := ajk (neg := dm v) (n := v.natAbs)
 have h512 : v.natAbs < 10 ^ 200 := Nat.lt_trans (by unfold Zt at hzt; exact hzt) aew
 have h4 := ae7 (b := 10) (by omega) (neg := dm v) h512
 generalize v * 10 ^ j = z at h1
 generalize txt 10 (dm v) v.natAbs = t1 at *
 generalize txt 16 (dm v) v.natAbs = t2 at *
 have a1 : bst t1 ++ ⟨(List.replicate j (48 : UInt8)).toArray⟩ = bst (t1 ++ List.replicate j 48) := by rw [fp, an]
 have a2 : bst t2 ++ ⟨(List.replicate j (48 : UInt8)).toArray⟩ = bst (t2 ++ List.replicate j 48) := by rw [fp, an]
 have b1 : (bst t1).size + (⟨(List.replicate j (48 : UInt8)).toArray⟩ : ByteArray).size ≤ 2 ^ 60 := by rw [fp, aa, aa, List.length_replicate]; omega
 have b2 : (bst t2).size + (⟨(List.replicate j (48 : UInt8)).toArray⟩ : ByteArray).size ≤ 2 ^ 60 := by rw [fp, aa, aa, List.length_replicate]; omega
 unfold xH
 repeat' ((conv => whnf); first | refine aw.data ?_ | with_reducible refine Br.bt fun _ => ?_ | with_reducible refine Br.bf fun _ => ?_ | refine cE ht ?_ | refine cE hh ?_ | refine cE h1 ?_ | refine cE h2 ?_ | refine Cd.mk b1 ?_ | refine Cd.mk b2 ?_ | refine rgE ?_ | refine Cd.mk rfl ?_ | refine Br.t ?_ | refine Br.f ?_ | with_reducible refine Br.eqd ?_ | with_reducible refine Br.eqb ?_ | with_reducible refine Br.dec (fun _ => ?_) (fun _ => ?_) | with_reducible refine Br.br (fun _ => ?_) (fun _ => ?_) | refine Br.mk (fun _ => ?_) (fun _ => ?_) | refine ao.mk _ rfl ?_ | refine And.intro (fun _ => ?_) ?_ | (refine TkE.fL ?_; (conv => whnf); fail_if_success (show ag _ _)) | refine TkE.mk _ rfl rfl ?_ | refine Res.mk ?_ | refine a8.mk (by repeat first | exact True.intro | refine And.intro (by kernel_rfl) ?_) ?_ | refine DsE.mk [] rfl ?_ | refine ai.cu _ _ ?_ | ((with_reducible refine EqE.idT ?_); first | refine EqE.mk _ a1 ?_ | refine EqE.mk _ a2 ?_ | ((conv => arg 1; simp only [ak, List.toList_toArray, an, ae, aa, Int.toNat_natCast, Int.toNat_zero, Int.toNat_one, b4, b5, List.drop_zero, Nat.sub_zero, List.cons_append, List.nil_append]); refine EqE.mk _ rfl ?_) | refine EqE.mk _ rfl ?_) | ((with_reducible refine EqE.idP ?_); first | ((conv => arg 1; simp only [ak, List.toList_toArray, bz, b3]); refine EqE.mk _ rfl ?_) | refine EqE.mk _ rfl ?_) | ((with_reducible refine EqE.idN ?_); first | ((conv => arg 1; simp only [ak, List.toList_toArray, aa, bb, Int.toNat_natCast, Int.toNat_zero, Int.toNat_one, List.length_cons, List.length_nil, Nat.zero_add]); refine EqE.mk _ rfl ?_)) | ((with_reducible refine EqE.idW ?_); first | with_reducible refine EqE.mk _ (a7 _ (by omega)) ?_ | with_reducible refine EqE.mk _ (ar _ (by omega)) ?_ | refine EqE.mk _ (ah (by omega) (by omega)) ?_ | refine EqE.mk _ rfl ?_) | ((with_reducible refine EqE.idM ?_); refine EqE.mk _ rfl ?_) | ((with_reducible refine EqE.idI ?_); first | refine EqE.mk _ (max_eq _ _) ?_ | refine EqE.mk _ (min_eq _ _) ?_) | ((with_reducible refine EqE.idS ?_); first | (refine EqE.fP ?_; (conv => whnf); fail_if_success (show ag _ _)) | refine EqE.mk _ rfl ?_) | ((with_reducible refine EqE.idL ?_); first | refine EqE.mk _ (ax _ _ _ _ (by omega) (by omega) rfl) ?_ | refine EqE.mk _ rfl ?_) | refine EqE.mk _ rfl ?_ | refine Cd.ro ?_ | refine Cd.dc ?_ | refine Cd.ob ?_ | refine Cd.ol ?_ | refine Cd.mk ⟨rfl, rfl⟩ ?_ | refine Cd.os ?_ | refine Cd.mk ?_ ?_ | refine DsE.mk [_] rfl ?_ | refine DsE.mk [_, _, _] rfl ?_)
 rw [decide_eq_true (show ((t2.length : Nat) : Int) ≤ ((t1.length : Nat) : Int) by omega)]
 rfl
theorem aao {x : D} (h : xk .bool x) : ∃ b : Bool, x = .bool b := by
 obtain ⟨ds, ⟨b, rfl⟩, rfl⟩ := h
 exact ⟨b, rfl⟩
theorem agt {x : D} (h : xk aab x) : ∃ l : List UInt32, x = sl l ∧ l.length ≤ 9223372036854775807 := by
 obtain ⟨ds, h1, rfl⟩ := h
 obtain ⟨l, rfl, h2⟩ := aa3 h1
 rw [yc] at h2
 exact ⟨l, rfl, h2⟩
end Go.Ev.Ar
