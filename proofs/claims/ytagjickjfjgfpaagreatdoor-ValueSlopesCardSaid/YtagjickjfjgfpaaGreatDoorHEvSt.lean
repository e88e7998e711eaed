/- Contracts of the given functions, on data. Conditions stand in each theorem. -/
import Derived.Test.YtagjickjfjgfpaaGreatDoorHEvW
import Derived.Test.YtagjickjfjgfpaaGreatDoorHEvR
import Derived.Test.YtagjickjfjgfpaaGreatDoorHAvDyL
set_option linter.unusedSimpArgs false
set_option linter.unusedVariables false
namespace Go.Ev
open Go
theorem awt {U V u0 v0 P U3 V2 q : Nat} (hU : U = u0 + P * U3) (hV : V = v0 + P * V2) (hu : u0 < P) (hq : q * V ≤ U) : q * V2 ≤ U3 := by
 subst hU hV
 have h1 : P * (q * V2) ≤ q * (v0 + P * V2) := by
  rw [Nat.mul_add, ← Nat.mul_assoc q P V2, Nat.mul_comm q P, Nat.mul_assoc]; omega
 have h2 : P * (q * V2) < P * (U3 + 1) := by rw [Nat.mul_add, Nat.mul_one]; omega
 have := Nat.lt_of_mul_lt_mul_left h2
 omega
theorem awu {U V u0 v0 P U3 V2 g : Nat} (hU : U = u0 + P * U3) (hV : V = v0 + P * V2) (hu : u0 < P) (hg : U3 < g * V2) : U < g * V := by
 subst hU hV
 have h1 : P * (U3 + 1) ≤ P * (g * V2) := Nat.mul_le_mul_left _ hg
 have h2 : P * (g * V2) ≤ g * (v0 + P * V2) := by
  rw [Nat.mul_add, ← Nat.mul_assoc g P V2, Nat.mul_comm g P, Nat.mul_assoc]; omega
 rw [Nat.mul_add, Nat.mul_one] at h1
 omega
theorem ao8 {U V u0 v0 P U3 V2 g : Nat} (hU : U = u0 + P * U3) (hV : V = v0 + P * V2) (hv : v0 < P) (hg : g * V2 ≤ U3) (hgV : g ≤ V2 + 1) : (g - 1) * V ≤ U := by
 cases g with
 | zero => simp
 | succ g =>
  subst hU hV
  rw [Nat.add_sub_cancel]
  have h1 : g * (V2 + 1) ≤ U3 := by
   rw [Nat.mul_add, Nat.mul_one]
   rw [Nat.add_mul, Nat.one_mul] at hg; omega
  have h2 : g * (v0 + P * V2) ≤ P * (g * (V2 + 1)) := by
   rw [Nat.mul_add, Nat.mul_add V2 1 |> fun h => Nat.mul_add g V2 1, Nat.mul_one, Nat.mul_add P, ← Nat.mul_assoc g P V2, Nat.mul_comm g P, Nat.mul_assoc, Nat.mul_comm P g]
   have := Nat.mul_le_mul_left g (Nat.le_of_lt hv)
   omega
  have h3 : P * (g * (V2 + 1)) ≤ P * U3 := Nat.mul_le_mul_left _ h1
  omega
theorem a1j {U V g : Nat} (hV : 0 < V) (h1 : U / V ≤ g) (h2 : (g - 1) * V ≤ U) : U / V = g ∨ U / V = g - 1 := by
 have := (Nat.le_div_iff_mul_le hV).2 h2
 omega
theorem a1a (l : List UInt32) (n : Nat) (hl : l.length = n + 1) (hn : 2 ≤ n) : nv l = nv (l.take (n - 2)) + Pw (n - 2) * ((l.getD (n - 2) 0).toNat + 4294967296 * ((l.getD (n - 1) 0).toNat + 4294967296 * (l.getD n 0).toNat)) := by
 rw [ir l (n - 2) (by omega), gw l (n - 2), gw l (n - 2 + 1), gw l (n - 2 + 1 + 1), show n - 2 + 1 = n - 1 by omega, show n - 1 + 1 = n by omega, List.drop_eq_nil_of_le (by omega), vp, Nat.mul_zero, Nat.add_zero]
theorem a09 (l : List UInt32) (n : Nat) (hl : l.length = n) (hn : 2 ≤ n) : nv l = nv (l.take (n - 2)) + Pw (n - 2) * ((l.getD (n - 2) 0).toNat + 4294967296 * (l.getD (n - 1) 0).toNat) := by
 rw [ir l (n - 2) (by omega), gw l (n - 2), gw l (n - 2 + 1), show n - 2 + 1 = n - 1 by omega, show n - 1 + 1 = n by omega, List.drop_eq_nil_of_le (by omega), vp, Nat.mul_zero, Nat.add_zero]
theorem qy (l : List UInt32) (k : Nat) : nv (l.take k) < Pw k := by
 have := dc (l.take k)
 refine Nat.lt_of_lt_of_le this (e8 ?_)
 rw [List.length_take]; omega
theorem au4 {p u v g c b : Nat} (hu : u < 4294967296) (hv : v < 4294967296) (hg : g < 4294967296) (hc : c < 4294967296) (hb : b ≤ 1) {x : Nat} (hx : x = ((u + 18446744073709551616 - (c + g * v) % 4294967296) % 18446744073709551616 + 18446744073709551616 - b) % 18446744073709551616) :
  p * (x % 4294967296) + g * (p * v) + p * (c + b) = p * u + 4294967296 * p * ((c + g * v) / 4294967296 + x / 4294967296 % 2) ∧ (c + g * v) / 4294967296 < 4294967296 ∧ x / 4294967296 % 2 ≤ 1 ∧ c + g * v < 18446744073709551616 := by
 have h1 : g * v ≤ 4294967295 * 4294967295 := Nat.mul_le_mul (by omega) (by omega)
 generalize hw : g * v = w at *
 have h2 : x % 4294967296 + (c + w) % 4294967296 + b = u + 4294967296 * (x / 4294967296 % 2) := by omega
 have h3 : x % 4294967296 + w + (c + b) = u + 4294967296 * ((c + w) / 4294967296 + x / 4294967296 % 2) := by omega
 have h4 := congrArg (p * ·) h3
 simp only [Nat.mul_add] at h4
 refine ⟨?_, by omega, by omega, by omega⟩
 have e1 : g * (p * v) = p * w := by rw [← hw]; simp only [Nat.mul_left_comm]
 have e2 : ∀ y, p * (4294967296 * y) = 4294967296 * p * y := fun y => by rw [Nat.mul_left_comm, Nat.mul_assoc]
 simp only [Nat.mul_add, e1] at h4 ⊢
 rw [e2, e2] at h4
 omega
end Go.Ev

namespace Go.Ev.Ar
open Go Go.Ev Go.Proofs
noncomputable def a1s : Code := match Tryz.f236.body with | some c => c | none => .skip
noncomputable def a4a : Code := Ev.Code.inner (Ev.Code.snd a1s)
noncomputable def an2 : Code := Ev.Code.snd (Ev.Code.snd (Ev.Code.snd (Ev.Code.snd (Ev.Code.snd a4a))))
noncomputable def ay4 : Code := Ev.Code.snd an2
theorem abl (A W : List UInt32) (i : Int) (j : Nat) (e : i = j) (h : j < W.length) : A.length + i.toNat * 1 + 1 ≤ (la (A ++ W)).length := by
 subst e; rw [ue, List.length_append, Int.toNat_natCast]; omega
theorem po {a b : List UInt32} {i : Nat} (h : a.drop i = b.drop i) : a.getD i 0 = b.getD i 0 := by
 have := congrArg (fun l => l.getD 0 0) h
 simpa [List.getD_eq_getElem?_getD] using this
theorem jd (a : List UInt32) (i : Nat) (v : UInt32) : (a.set i v).drop (i + 1) = a.drop (i + 1) := by
 rw [List.drop_set_of_lt (by omega)]
theorem zw (a : List UInt32) (i : Nat) (v : UInt32) : (a.set i v).take i = a.take i := by
 rw [List.take_set_of_le (by omega)]
theorem r9 (a : List UInt32) (i v : Nat) (hi : i < a.length) (hv : v < 4294967296) : nv ((a.set i (UInt32.ofNat v)).take (i + 1)) = nv (a.take i) + Pw i * v := by
 rw [ay, zw, n6 hi, toNat_ofNat hv]
theorem ajb (a b : List UInt32) (n N : Nat) (hl : n ≤ a.length) (hd : a.drop n = b.drop n) (hn : nv (a.take n) = N) : a = aee N n ++ b.drop n := by
 rw [← hd, ← ase (l := a.take n) (by rw [List.length_take]; omega) hn, List.take_append_drop]
def jz (W v : List UInt32) : List UInt32 := aee (nv (W.take (v.length + 1)) % nv v) (v.length + 1) ++ W.drop (v.length + 1)
abbrev a2j (A W v : List UInt32) : Exit → St → Prop := a35 tab Tryz.f236.results.toList (.d (.int .u32 (nv (W.take (v.length + 1)) / nv v : Nat))) [(1000000, false, la (A ++ jz W v))]
set_option maxHeartbeats 4000000 in
theorem au3 (A W v : List UInt32) (g : Nat) (hA : A.length + W.length < 2^32) (hn : 2 ≤ v.length) (hW : v.length + 1 ≤ W.length) (hV : 0 < nv v) (hg : g < 4294967296)
  (hq : nv (W.take (v.length + 1)) / nv v = g ∨ nv (W.take (v.length + 1)) / nv v + 1 = g) :
  Wp' Tryz.prog G0 ay4 (a2j A W v) ⟨164, [0, 1, 5, 8].zip [.own 1000000 A.length (v.length + 1) 1, .d (sl v), .d (.int .i64 v.length), .d (.int .u64 g)], [(1000000, false, la (A ++ W))]⟩ := by
 generalize hnl : v.length = n at *
 generalize hU : nv (W.take (n + 1)) = U at *
 generalize hVe : nv v = V at *
 refine ec af _ _ _ ?_
 repeat' ((conv => whnf); first | refine rgE ?_)
 refine ⟨[], [0, 1, 5, 8, 10, 11, 74, 75], [1000000], fun m xs h => ∃ (i c b : Nat) (W1 : List UInt32), m = n - i ∧ i ≤ n ∧ c < 4294967296 ∧ b ≤ 1 ∧ W1.length = W.length ∧ W1.drop i = W.drop i ∧ nv (W1.take i) + g * nv (v.take i) = nv (W.take i) + Pw i * (c + b) ∧
  xs = [.own 1000000 A.length (n + 1) 1, .d (sl v), .d (.int .i64 n), .d (.int .u64 g), .d (.int .u64 b), .d (.int .u64 c), .d (.int .i64 n), .d (.int .i64 i)] ∧ h = [(1000000, false, la (A ++ W1))],
  ⟨_, _, _, ⟨.inl rfl, rfl, rfl, by first | rfl | (repeat first | exact all_nil _ | refine bm _ _ _ _ _ ?_)⟩, 0, 0, 0, W, rfl, by omega, by decide, by decide, rfl, rfl, by simp, rfl, rfl⟩, ?_⟩
 rintro m xs h ⟨i, c, b, W1, rfl, hi, hc, hb, hl1, hd1, hs1, rfl, rfl⟩
 by_cases hlt : i < n
 ·have hvi := bd (v.getD i 0)
  have hui := bd (W1.getD i 0)
  have hgv : g * (v.getD i 0).toNat ≤ 18446744065119617025 := Nat.mul_le_mul (show g ≤ 4294967295 by omega) (show (v.getD i 0).toNat ≤ 4294967295 by omega)
  have hgv2 := amu hg hvi
  repeat' ((conv => whnf); first | with_reducible refine Br.bt fun _ => ?_ | refine ah.mk _ (qw v _ i rfl (by omega)) ?_ | refine ah.mk _ (vk A W1 _ i rfl (by omega)) ?_ | refine rgE ?_ | refine Cd.mk rfl ?_ | refine an.cu _ _ ?_ | ((with_reducible refine EqE.idW ?_); first | refine EqE.mk _ (ar4 _ _ hgv2) ?_ | with_reducible refine EqE.mk _ (cj _) ?_ | with_reducible refine EqE.mk _ (agj _ _ (by omega)) ?_ | with_reducible refine EqE.mk _ (aiv _ _ (by omega) (by omega)) ?_ | with_reducible refine EqE.mk _ (apn _ (by omega)) ?_ | with_reducible refine EqE.mk _ (a3j _ (by omega)) ?_ | with_reducible refine EqE.mk _ (j8 _) ?_ | with_reducible refine EqE.mk _ (ax _ (by omega)) ?_) | ((with_reducible refine EqE.idF ?_); refine EqE.mk _ (l4 _ 4294967296 _ _ rfl) ?_) | ((with_reducible refine EqE.idS ?_); refine EqE.mk _ (vl A W1 _ i _ rfl (by omega) (by omega)) ?_) | refine Cd.om ?_)
  obtain ⟨x, hx⟩ : ∃ x, x = (((W1.getD i 0).toNat + 18446744073709551616 - (c + g * (v.getD i 0).toNat) % 4294967296) % 18446744073709551616 + 18446744073709551616 - b) % 18446744073709551616 := ⟨_, rfl⟩
  obtain ⟨r1, r2, r3, r4⟩ := au4 (p := Pw i) hui hvi hg hc hb hx
  rw [← hx]
  refine ⟨_, ⟨i + 1, _, _, W1.set i (UInt32.ofNat (x % 4294967296)), rfl, by omega, r2, r3, by rw [List.length_set, hl1], ?_, ?_, rfl, rfl⟩, by omega⟩
  ·rw [jd, ← List.drop_drop, ← List.drop_drop, hd1]
  ·have e1 : (W.getD i 0).toNat = (W1.getD i 0).toNat := by rw [po hd1]
   rw [r9 _ _ _ (by omega) (by omega), ay, ay, e1, c5, Nat.mul_add g]
   omega
 obtain rfl : i = n := by omega
 clear hi hlt
 rw [List.take_of_length_le (show v.length ≤ i by omega), hVe] at hs1
 have hui := bd (W1.getD i 0)
 have e1 : (W.getD i 0).toNat = (W1.getD i 0).toNat := by rw [po hd1]
 have hU1 : nv (W1.take i) + g * V + Pw i * (W1.getD i 0).toNat = U + Pw i * (c + b) := by
  rw [← hU, ay, e1]; omega
 obtain ⟨x, hx⟩ : ∃ x, x = (((W1.getD i 0).toNat + 18446744073709551616 - c) % 18446744073709551616 + 18446744073709551616 - b) % 18446744073709551616 := ⟨_, rfl⟩
 have hVn : V < Pw i := by rw [← hVe, ← hnl]; exact dc v
 have hdm := Nat.div_add_mod U V
 have hml := Nat.mod_lt U hV
 have hWl : nv (W1.take i) < Pw i := qy W1 i
 have hqg : g * V = V * (U / V) ∨ g * V = V * (U / V) + V := by
  rcases hq with h | h <;> rw [← h]
  ·exact .inl (Nat.mul_comm _ _)
  ·right; rw [Nat.mul_comm, Nat.mul_add, Nat.mul_one]
 have hx2 : (c + b ≤ (W1.getD i 0).toNat ∧ x = (W1.getD i 0).toNat - (c + b)) ∨ ((W1.getD i 0).toNat < c + b ∧ x % 4294967296 + (c + b) = (W1.getD i 0).toNat + 4294967296 ∧ x / 4294967296 % 2 = 1) := by omega
 repeat' ((conv => whnf); first | with_reducible refine Br.bf fun _ => ?_ | refine ah.mk _ (vk A W1 _ i rfl (by omega)) ?_ | refine rgE ?_ | refine Cd.mk rfl ?_ | with_reducible refine Br.dec (fun _ => ?_) (fun _ => ?_) | ((with_reducible refine EqE.idW ?_); first | with_reducible refine EqE.mk _ (cj _) ?_ | with_reducible refine EqE.mk _ (aiv _ _ (by omega) (by omega)) ?_ | with_reducible refine EqE.mk _ (apn _ (by omega)) ?_ | with_reducible refine EqE.mk _ (j8 _) ?_) | ((with_reducible refine EqE.idF ?_); refine EqE.mk _ (l4 _ 4294967296 _ _ rfl) ?_) | ((with_reducible refine EqE.idS ?_); refine EqE.mk _ (vl A W1 _ i _ rfl (by omega) (by omega)) ?_) | refine Cd.om ?_)
 ·rename_i h0
  rw [← hx] at h0
  have hc1 : c + b ≤ (W1.getD i 0).toNat ∧ x = (W1.getD i 0).toNat - (c + b) := by
   rcases hx2 with h | h
   ·exact h
   ·omega
  have hr : nv (W1.take i) + Pw i * x + g * V = U := by
   have : Pw i * x + Pw i * (c + b) = Pw i * (W1.getD i 0).toNat := by rw [← Nat.mul_add]; congr 1; omega
   omega
  have hgq : U / V = g := by
   rcases hq with h | h
   ·exact h
   ·have : g * V = V * (U / V) + V := by rw [← h, Nat.mul_comm, Nat.mul_add, Nat.mul_one]
    omega
  have hgV : g * V = V * (U / V) := by rw [← hgq, Nat.mul_comm]
  refine fo.data _ ?_ rfl
  refine ⟨?_, ?_⟩
  ·show D.int .u32 _ = D.int .u32 _
   rw [hnl, hU, hVe, hgq, Nat.mod_eq_of_lt hg]
  ·show [(1000000, false, la (A ++ W1.set i (UInt32.ofNat _)))] = _
   rw [← hx]
   have e2 : W1.set i (UInt32.ofNat (x % 4294967296)) = jz W v := by
    unfold jz
    rw [hnl, hU, hVe]
    refine ajb _ _ _ _ (by rw [List.length_set]; omega) ?_ ?_
    ·rw [jd, ← List.drop_drop, ← List.drop_drop, hd1]
    ·rw [r9 _ _ _ (by omega) (by omega), Nat.mod_eq_of_lt (by omega)]; omega
   rw [e2]
 ·rename_i h0
  rw [← hx] at h0
  have hc1 : (W1.getD i 0).toNat < c + b ∧ x % 4294967296 + (c + b) = (W1.getD i 0).toNat + 4294967296 := by
   rcases hx2 with h | h
   ·omega
   ·exact ⟨h.1, h.2.1⟩
  rw [← hx]
  generalize hy : x % 4294967296 = y at *
  have hyl : y < 4294967296 := by omega
  have hP := c5 i
  have hr : nv (W1.take i) + Pw i * y + g * V = U + Pw (i + 1) := by
   have : Pw i * y + Pw i * (c + b) = Pw i * (W1.getD i 0).toNat + Pw (i + 1) := by rw [hP, Nat.mul_comm 4294967296, ← Nat.mul_add, ← Nat.mul_add]; congr 1; omega
   omega
  have hUP : U < Pw (i + 1) := by rw [← hU]; exact qy _ _
  have hyP : Pw i * y + Pw i ≤ Pw (i + 1) := by
   rw [hP, Nat.mul_comm 4294967296]
   have := Nat.mul_le_mul_left (Pw i) (show y + 1 ≤ 4294967296 by omega)
   rw [Nat.mul_add, Nat.mul_one] at this; exact this
  have hgq : U / V + 1 = g := by
   rcases hq with h | h
   ·have : g * V = V * (U / V) := by rw [← h, Nat.mul_comm]
    omega
   ·exact h
  have hgV : g * V = V * (U / V) + V := by rw [← hgq, Nat.mul_comm, Nat.mul_add, Nat.mul_one]
  have hW2n : nv ((W1.set i (UInt32.ofNat y)).take i) = nv (W1.take i) := by rw [zw]
  have hW2d : (W1.set i (UInt32.ofNat y)).drop (i + 1) = W.drop (i + 1) := by rw [jd, ← List.drop_drop, ← List.drop_drop, hd1]
  have hW2l : (W1.set i (UInt32.ofNat y)).length = W.length := by rw [List.length_set, hl1]
  have hW2y : ((W1.set i (UInt32.ofNat y)).getD i 0).toNat = y := by rw [n6 (by omega), toNat_ofNat hyl]
  generalize W1.set i (UInt32.ofNat y) = W2 at *
  refine ⟨[], [0, 1, 5, 8, 11, 128, 129], [1000000], fun m xs h => ∃ (j c : Nat) (W3 : List UInt32), m = i - j ∧ j ≤ i ∧ c ≤ 1 ∧ W3.length = W.length ∧ W3.drop j = W2.drop j ∧ nv (W3.take j) + Pw j * c = nv (W2.take j) + nv (v.take j) ∧
   xs = [.own 1000000 A.length (i + 1) 1, .d (sl v), .d (.int .i64 i), .d (.int .u64 g), .d (.int .u64 c), .d (.int .i64 i), .d (.int .i64 j)] ∧ h = [(1000000, false, la (A ++ W3))],
   ⟨_, _, _, ⟨.inl rfl, rfl, rfl, by first | rfl | (repeat first | exact all_nil _ | refine bm _ _ _ _ _ ?_)⟩, 0, 0, W2, rfl, by omega, by decide, hW2l, rfl, by simp, rfl, rfl⟩, ?_⟩
  rintro m xs h ⟨j, c', W3, rfl, hj, hc', hl3, hd3, hs3, rfl, rfl⟩
  by_cases hlt : j < i
  ·have hvi := bd (v.getD j 0)
   have hu3 := bd (W3.getD j 0)
   have e3 : (W2.getD j 0).toNat = (W3.getD j 0).toNat := by rw [po hd3]
   repeat' ((conv => whnf); first | with_reducible refine Br.bt fun _ => ?_ | refine ah.mk _ (qw v _ j rfl (by omega)) ?_ | refine ah.mk _ (vk A W3 _ j rfl (by omega)) ?_ | refine Cd.mk (abl A W3 _ j rfl (by omega)) ?_ | refine rgE ?_ | refine Cd.mk rfl ?_ | refine an.cu _ _ ?_ | ((with_reducible refine EqE.idW ?_); first | with_reducible refine EqE.mk _ (cj _) ?_ | with_reducible refine EqE.mk _ (agj _ _ (by omega)) ?_ | with_reducible refine EqE.mk _ (j8 _) ?_ | with_reducible refine EqE.mk _ (ax _ (by omega)) ?_) | ((with_reducible refine EqE.idF ?_); refine EqE.mk _ (l4 _ 4294967296 _ _ rfl) ?_) | ((with_reducible refine EqE.idS ?_); refine EqE.mk _ (vl A W3 _ j _ rfl (by omega) (by omega)) ?_) | refine Cd.om ?_)
   generalize hz : (c' + ((W3.getD j 0).toNat + (v.getD j 0).toNat)) = z at *
   refine ⟨_, ⟨j + 1, z / 4294967296, W3.set j (UInt32.ofNat (z % 4294967296)), rfl, by omega, by omega, by rw [List.length_set, hl3], ?_, ?_, rfl, rfl⟩, by omega⟩
   ·rw [jd, ← List.drop_drop, ← List.drop_drop, hd3]
   ·have h5 := lu (Pw j) z
    rw [r9 _ _ _ (by omega) (by omega), ay, ay, e3, c5]
    rw [← hz, Nat.mul_add, Nat.mul_add] at h5
    rw [← hz]
    omega
  ·obtain rfl : j = i := by omega
   have hu3 := bd (W3.getD j 0)
   have e3 : (W2.getD j 0).toNat = (W3.getD j 0).toNat := by rw [po hd3]
   rw [hW2y] at e3
   rw [List.take_of_length_le (show v.length ≤ j by omega), hVe, hW2n] at hs3
   repeat' ((conv => whnf); first | with_reducible refine Br.bf fun _ => ?_ | refine ah.mk _ (vk A W3 _ j rfl (by omega)) ?_ | refine Cd.mk (abl A W3 _ j rfl (by omega)) ?_ | refine rgE ?_ | refine Cd.mk rfl ?_ | ((with_reducible refine EqE.idW ?_); first | with_reducible refine EqE.mk _ (a0w _ _) ?_ | with_reducible refine EqE.mk _ (j8 _) ?_ | with_reducible refine EqE.mk _ (wrap_u32 _) ?_ | refine EqE.mk _ rfl ?_) | ((with_reducible refine EqE.idS ?_); refine EqE.mk _ (vl A W3 _ j _ rfl (by omega) (by omega)) ?_) | refine Cd.om ?_)
   have hS : nv (W3.take j) + Pw j * (y + c') + g * V = U + Pw (j + 1) + V := by rw [Nat.mul_add]; omega
   have hW3l := qy W3 j
   have hyc : y + c' = 4294967296 := by
    apply Classical.byContradiction
    intro hne
    have h1 : Pw j * (y + c') + Pw j ≤ Pw (j + 1) := by
     rw [hP, Nat.mul_comm 4294967296]
     have := Nat.mul_le_mul_left (Pw j) (show y + c' + 1 ≤ 4294967296 by omega)
     rw [Nat.mul_add, Nat.mul_one] at this; exact this
    omega
   rw [hyc, Nat.mul_comm, ← hP] at hS
   have e : IntKind.u32.wrap (IntKind.u64.wrap ((g : Int) - 1)) = ((U / V : Nat) : Int) := by
    have hg1 : 1 ≤ g := by rw [← hgq]; exact Nat.le_add_left 1 _
    rw [apq g hg1 (by omega), j8, Nat.mod_eq_of_lt (by omega), ← hgq, Nat.add_sub_cancel]
   refine fo.data _ ?_ rfl
   refine ⟨?_, ?_⟩
   ·show D.int .u32 (IntKind.u32.wrap (IntKind.u64.wrap ((g : Int) - 1))) = D.int .u32 _
    rw [hnl, hU, hVe, e]
   ·show [(1000000, false, la (A ++ W3.set j (UInt32.ofNat _)))] = _
    rw [← e3, Nat.mod_eq_of_lt (show c' < 4294967296 by omega), hyc]
    have e2 : W3.set j (UInt32.ofNat (4294967296 % 4294967296)) = jz W v := by
     unfold jz
     rw [hnl, hU, hVe]
     refine ajb _ _ _ _ (by rw [List.length_set]; omega) ?_ ?_
     ·rw [jd, ← List.drop_drop, hd3, List.drop_drop, hW2d]
     ·rw [r9 _ _ _ (by omega) (by omega)]; omega
    rw [e2]
theorem ap4 {x y z : Nat} (h : z < x * y) : 1 ≤ x := by
 cases x with
 | zero => rw [Nat.zero_mul] at h; omega
 | succ x => omega
theorem yw {g d r top : Nat} (h : g * d + r = top) (hg : 1 ≤ g) : (g - 1) * d + (r + d) = top := by
 cases g with
 | zero => omega
 | succ g => rw [Nat.add_mul, Nat.one_mul] at h; rw [Nat.add_sub_cancel]; omega
theorem af6 {g d r top v u : Nat} (h : g * d + r = top) (hr : 4294967296 ≤ r) (hg : g < 4294967296) (hv : v < 4294967296) : g * (v + 4294967296 * d) ≤ u + 4294967296 * top := by
 have h1 : g * v ≤ 4294967295 * 4294967295 := Nat.mul_le_mul (by omega) (by omega)
 rw [← h, Nat.mul_add, Nat.mul_left_comm]
 generalize g * v = a at *
 generalize g * d = b at *
 omega
theorem awv {g d r top v u : Nat} (h : g * d + r = top) (hc : g * v ≤ r * 4294967296 + u) : g * (v + 4294967296 * d) ≤ u + 4294967296 * top := by
 rw [← h, Nat.mul_add, Nat.mul_left_comm]
 generalize g * v = a at *
 generalize g * d = b at *
 omega
theorem amg {g d r top v u : Nat} (h : g * d + r = top) (hc : r * 4294967296 + u < g * v) : u + 4294967296 * top < g * (v + 4294967296 * d) := by
 rw [← h, Nat.mul_add g, Nat.mul_left_comm g]
 generalize g * v = a at *
 generalize g * d = b at *
 omega
structure rq (U V P u0 v0 u2 v2 d top : Nat) : Prop where
 hU : U = u0 + P * (u2 + 4294967296 * top)
 hV : V = v0 + P * (v2 + 4294967296 * d)
 hu : u0 < P
 hv : v0 < P
 hV0 : 0 < V
 hv2 : v2 < 4294967296
 hu2 : u2 < 4294967296
 hd : 2147483648 ≤ d
 hlt : U < 4294967296 * V
theorem rq.a5c {U V P u0 v0 u2 v2 d top : Nat} (G : rq U V P u0 v0 u2 v2 d top) : U / V < 4294967296 := Nat.div_lt_of_lt_mul (by rw [Nat.mul_comm]; exact G.hlt)
theorem rq.azc {U V P u0 v0 u2 v2 d top : Nat} (G : rq U V P u0 v0 u2 v2 d top) : top ≤ v2 + 4294967296 * d := by
 have h1 := G.hlt
 rw [G.hU, G.hV] at h1
 have h2 : P * (u2 + 4294967296 * top) < P * (4294967296 * (v2 + 4294967296 * d + 1)) := by
  have e : P * (4294967296 * (v2 + 4294967296 * d + 1)) = 4294967296 * (P * (v2 + 4294967296 * d)) + 4294967296 * P := by
   rw [Nat.mul_add, Nat.mul_one, Nat.mul_add, Nat.mul_left_comm, Nat.mul_comm P 4294967296]
  rw [e]
  have := G.hv
  generalize P * (v2 + 4294967296 * d) = a at *
  generalize P * (u2 + 4294967296 * top) = b at *
  omega
 have := Nat.lt_of_mul_lt_mul_left h2
 omega
theorem rq.first {U V P u0 v0 u2 v2 d top : Nat} (G : rq U V P u0 v0 u2 v2 d top) : U / V ≤ top / d ∧ top / d ≤ 4294967297 := by
 have hd := G.hd
 refine ⟨(Nat.le_div_iff_mul_le (by omega)).2 ?_, ?_⟩
 ·have h1 := awt (q := U / V) G.hU G.hV G.hu (Nat.div_mul_le_self U V)
  rw [Nat.mul_add, Nat.mul_left_comm] at h1
  have := G.hu2
  generalize (U / V) * d = a at *
  generalize (U / V) * v2 = b at *
  omega
 ·have h1 := G.azc
  have h2 := G.hv2
  have h3 : top < d * 4294967298 := by omega
  have := Nat.div_lt_of_lt_mul h3
  omega
theorem rq.small {U V P u0 v0 u2 v2 d top g r : Nat} (G : rq U V P u0 v0 u2 v2 d top) (h : g * d + r = top) (hg : 4294967297 ≤ g) : r + d < 4294967296 := by
 have h1 := G.azc
 have h2 := G.hv2
 have h3 := Nat.mul_le_mul_right d hg
 generalize g * d = a at *
 omega
theorem rq.done {U V P u0 v0 u2 v2 d top g : Nat} (G : rq U V P u0 v0 u2 v2 d top) (h : g * (v2 + 4294967296 * d) ≤ u2 + 4294967296 * top) (hg : g < 4294967296) (hq : U / V ≤ g) : U / V = g ∨ U / V + 1 = g := by
 have hd := G.hd
 have h1 := ao8 G.hU G.hV G.hv h (by omega)
 rcases a1j G.hV0 hq h1 with h2 | h2
 ·exact .inl h2
 ·by_cases h0 : g = 0
  ·left; rw [h0] at h2 ⊢; exact h2
  ·right; omega
theorem rq.more {U V P u0 v0 u2 v2 d top g : Nat} (G : rq U V P u0 v0 u2 v2 d top) (h : u2 + 4294967296 * top < g * (v2 + 4294967296 * d)) : U / V < g := by
 have := awu G.hU G.hV G.hu h
 exact (Nat.div_lt_iff_lt_mul G.hV0).2 this
abbrev ay3 (A W v : List UInt32) (d top q : Nat) : Nat → List Ev.A → Hp → Prop := fun m xs h => ∃ g r : Nat, m = g ∧ g * d + r = top ∧ r < 4294967296 ∧ q ≤ g ∧ g ≤ 4294967297 ∧
 xs = [.own 1000000 A.length (v.length + 1) 1, .d (sl v), .d (.int .i64 v.length), .d (.int .u64 d), .d (.int .u64 g), .d (.int .u64 r)] ∧ h = [(1000000, false, la (A ++ W))]
abbrev a5g (A W v : List UInt32) (d top q m : Nat) : Exit → St → Prop := fun e σ' => match e with
 | .goto l' => Cd (l' = 0) (an (ay3 A W v d top q) m [0, 1, 5, 7, 8, 9] [1000000] σ')
 | e => a2j A W v e σ'
set_option maxHeartbeats 4000000 in
theorem au2 (A W v : List UInt32) (d top u0 v0 : Nat) (hA : A.length + W.length < 2^32) (hn : 2 ≤ v.length) (hW : v.length + 1 ≤ W.length) (hd : (v.getD (v.length - 1) 0).toNat = d)
  (G : rq (nv (W.take (v.length + 1))) (nv v) (Pw (v.length - 2)) u0 v0 (W.getD (v.length - 2) 0).toNat (v.getD (v.length - 2) 0).toNat d top) (g : Nat) (xs : List Ev.A) (h : Hp) (hI : ay3 A W v d top (nv (W.take (v.length + 1)) / nv v) g xs h) :
  Wp' Tryz.prog G0 an2 (a5g A W v d top (nv (W.take (v.length + 1)) / nv v) g) ⟨164, [0, 1, 5, 7, 8, 9].zip xs, h⟩ := by
 obtain ⟨_, r, rfl, hgr, hr, hqg, hg1, rfl, rfl⟩ := hI
 have T := fun g' hg' hq' => au3 A W v g' hA hn hW G.hV0 hg' hq'
 generalize hU : nv (W.take (v.length + 1)) = U at *
 generalize hVe : nv v = V at *
 have hu2 := bd (W.getD (v.length - 2) 0)
 have hv2 := bd (v.getD (v.length - 2) 0)
 have hd1 := bd (v.getD (v.length - 1) 0)
 have hd0 := G.hd
 rw [hd] at hd1
 have hdl := G.a5c
 refine v9 af ?_
 generalize hnl : v.length = n at *
 repeat' ((conv => whnf); first | refine ah.mk _ (qw v _ (n - 2) (by omega) (by omega)) ?_ | refine ah.mk _ (vk A W _ (n - 2) (by omega) (by omega)) ?_ | refine rgE ?_ | refine Cd.mk rfl ?_ | refine Br.t ?_ | refine Br.f ?_ | with_reducible refine Br.dec (fun _ => ?_) (fun _ => ?_) | with_reducible refine Br.ac1 (fun _ => ?_) (fun _ => ?_) | refine an.cu _ _ ?_ | ((with_reducible refine EqE.idW ?_); first | with_reducible refine EqE.mk _ (ar4 _ _ (amu (by omega) hv2)) ?_ | with_reducible refine EqE.mk _ (apo _ _ (by omega) (by omega)) ?_ | with_reducible refine EqE.mk _ (apq _ (by omega) (by omega)) ?_ | with_reducible refine EqE.mk _ (apq _ (ap4 (y := (v.getD (n - 2) 0).toNat) (z := r * 4294967296 + (W.getD (n - 2) 0).toNat) (by omega)) (by omega)) ?_ | with_reducible refine EqE.mk _ (cj _) ?_ | with_reducible refine EqE.mk _ (agj _ _ (by omega)) ?_ | with_reducible refine EqE.mk _ (abq _ (by omega)) ?_ | with_reducible refine EqE.mk _ (aj (by omega) (by omega)) ?_) | ((with_reducible refine EqE.idF ?_); refine EqE.mk _ (l4 _ 4294967296 _ _ rfl) ?_) | refine Cd.om ?_)
 ·rename_i h1 h2
  subst hnl
  have hm : 4294967296 ≤ g := by omega
  have hmq : U / V ≤ g - 1 := Nat.le_sub_one_of_lt (Nat.lt_of_lt_of_le hdl hm)
  exact ⟨_, ⟨g - 1, r + d, rfl, yw hgr (by omega), by omega, hmq, by omega, rfl, rfl⟩, by omega⟩
 ·rename_i h1 h2
  subst hnl
  have hm : 4294967296 ≤ g := by omega
  have hmq : U / V ≤ g - 1 := Nat.le_sub_one_of_lt (Nat.lt_of_lt_of_le hdl hm)
  have hg' : g ≤ 4294967296 := by
   apply Classical.byContradiction
   intro hc
   have := G.small hgr (by omega)
   omega
  have hg2 : g - 1 < 4294967296 := by omega
  have hdn := G.done (af6 (u := (W.getD (v.length - 2) 0).toNat) (yw hgr (by omega)) (show 4294967296 ≤ r + d by omega) hg2 hv2) hg2 hmq
  intro _
  refine ae6 [0, 1, 5, 8] [1000000] _ _ ⟨.inl rfl, rfl, rfl, by first | rfl | (repeat first | exact all_nil _ | refine bm _ _ _ _ _ ?_)⟩ (yg ?_ (T (g - 1) hg2 hdn))
  intro e σ' he
  cases e with
  | goto l => exact he.elim
  | _ => exact he
 ·rename_i h1 h2 h3
  subst hnl
  have hm := G.more (amg hgr (show r * 4294967296 + (W.getD (v.length - 2) 0).toNat < g * (v.getD (v.length - 2) 0).toNat by omega))
  have hm1 : 1 ≤ g := Nat.lt_of_le_of_lt (Nat.zero_le _) hm
  have hmq : U / V ≤ g - 1 := Nat.le_sub_one_of_lt hm
  exact ⟨_, ⟨g - 1, r + d, rfl, yw hgr (by omega), by omega, hmq, by omega, rfl, rfl⟩, by omega⟩
 ·rename_i h1 h2 h3
  subst hnl
  have hm := G.more (amg hgr (show r * 4294967296 + (W.getD (v.length - 2) 0).toNat < g * (v.getD (v.length - 2) 0).toNat by omega))
  have hm1 : 1 ≤ g := Nat.lt_of_le_of_lt (Nat.zero_le _) hm
  have hmq : U / V ≤ g - 1 := Nat.le_sub_one_of_lt hm
  have hg2 : g - 1 < 4294967296 := by omega
  have hdn := G.done (af6 (u := (W.getD (v.length - 2) 0).toNat) (yw hgr (by omega)) (show 4294967296 ≤ r + d by omega) hg2 hv2) hg2 hmq
  intro _
  refine ae6 [0, 1, 5, 8] [1000000] _ _ ⟨.inl rfl, rfl, rfl, by first | rfl | (repeat first | exact all_nil _ | refine bm _ _ _ _ _ ?_)⟩ (yg ?_ (T (g - 1) hg2 hdn))
  intro e σ' he
  cases e with
  | goto l => exact he.elim
  | _ => exact he
 ·rename_i h1 h2
  subst hnl
  have hg2 : g < 4294967296 := by omega
  have hdn := G.done (awv (u := (W.getD (v.length - 2) 0).toNat) hgr (show g * (v.getD (v.length - 2) 0).toNat ≤ r * 4294967296 + (W.getD (v.length - 2) 0).toNat by omega)) hg2 hqg
  intro _
  refine ae6 [0, 1, 5, 8] [1000000] _ _ ⟨.inl rfl, rfl, rfl, by first | rfl | (repeat first | exact all_nil _ | refine bm _ _ _ _ _ ?_)⟩ (yg ?_ (T g hg2 hdn))
  intro e σ' he
  cases e with
  | goto l => exact he.elim
  | _ => exact he
set_option maxHeartbeats 4000000 in
theorem au0 (A W v : List UInt32) (hA : A.length + W.length < 2^32) (hn : 2 ≤ v.length) (hW : v.length + 1 ≤ W.length) (htop : 2147483648 ≤ (v.getD (v.length - 1) 0).toNat) (hlt : nv (W.take (v.length + 1)) < 4294967296 * nv v) :
  ji Tryz.prog G0 236 [.own 1000000 A.length (v.length + 1) 1, .d (sl v)] [(1000000, false, la (A ++ W))] (.d (.int .u32 (nv (W.take (v.length + 1)) / nv v : Nat))) [(1000000, false, la (A ++ jz W v))] := by
 generalize hd : (v.getD (v.length - 1) 0).toNat = d at *
 have htk : ∀ j, j ≤ v.length → (W.take (v.length + 1)).getD j 0 = W.getD j 0 := by
  intro j hj
  rw [List.getD_eq_getElem?_getD, List.getElem?_take, if_pos (by omega), ← List.getD_eq_getElem?_getD]
 have hU3 := a1a (W.take (v.length + 1)) v.length (by rw [List.length_take]; omega) hn
 have hV3 := a09 v v.length rfl hn
 rw [htk _ (by omega), htk _ (by omega), htk _ (by omega), List.take_take, Nat.min_eq_left (by omega)] at hU3
 rw [hd] at hV3
 obtain ⟨top, htop2⟩ : ∃ t, t = (W.getD (v.length - 1) 0).toNat + 4294967296 * (W.getD v.length 0).toNat := ⟨_, rfl⟩
 rw [← htop2] at hU3
 have hun := bd (W.getD v.length 0)
 have hu1 := bd (W.getD (v.length - 1) 0)
 have hd1 := bd (v.getD (v.length - 1) 0)
 rw [hd] at hd1
 have G : rq (nv (W.take (v.length + 1))) (nv v) (Pw (v.length - 2)) (nv (W.take (v.length - 2))) (nv (v.take (v.length - 2))) (W.getD (v.length - 2) 0).toNat (v.getD (v.length - 2) 0).toNat d top :=
  ⟨hU3, hV3, qy _ _, qy _ _, by
   have := Nat.mul_pos (avg (v.length - 2)) (show 0 < (v.getD (v.length - 2) 0).toNat + 4294967296 * d by omega)
   omega, bd _, bd _, htop, hlt⟩
 have R := fun g xs h hI => au2 A W v d top _ _ hA hn hW hd G g xs h hI
 obtain ⟨g1, g2⟩ := G.first
 have hdm := Nat.div_add_mod top d
 have hml := Nat.mod_lt top (show d > 0 by omega)
 refine jq af Tryz.func236 ?_
 repeat' ((conv => whnf); first | refine rgE ?_)
 refine avb 0 rfl [0, 1, 5, 7, 8, 9] [1000000] (ay3 A W v d top (nv (W.take (v.length + 1)) / nv v)) ?_ ?_
 ·refine v9 af ?_
  repeat' ((conv => whnf); first | refine rgE ?_)
  intro _
  refine v9 af ?_
  repeat' ((conv => whnf); first | refine ah.mk _ (vk A W _ (v.length - 1) (by omega) (by omega)) ?_ | refine ah.mk _ (vk A W _ v.length rfl (by omega)) ?_ | refine rgE ?_ | refine Cd.mk rfl ?_ | ((with_reducible refine EqE.idW ?_); first | with_reducible refine EqE.mk _ (apo _ _ (by omega) (by omega)) ?_ | with_reducible refine EqE.mk _ (cj _) ?_ | with_reducible refine EqE.mk _ (abq _ (by omega)) ?_ | with_reducible refine EqE.mk _ (aj (by omega) (by omega)) ?_) | refine Cd.om ?_)
  intro _
  refine v9 af ?_
  repeat' ((conv => whnf); first | refine ah.mk _ (qw v _ (v.length - 1) (by omega) (by omega)) ?_ | refine rgE ?_ | refine Cd.mk rfl ?_ | ((with_reducible refine EqE.idW ?_); first | with_reducible refine EqE.mk _ (cj _) ?_ | with_reducible refine EqE.mk _ (aj (by omega) (by omega)) ?_) | refine Cd.om ?_)
  intro _
  refine v9 af ?_
  rw [hd]
  rw [show (W.getD v.length 0).toNat * 4294967296 + (W.getD (v.length - 1) 0).toNat = top by omega]
  repeat' ((conv => whnf); first | refine rgE ?_ | refine Cd.mk rfl ?_ | ((with_reducible refine EqE.idW ?_); refine EqE.mk _ (ar5 _ _ (by omega)) ?_) | ((with_reducible refine EqE.idM ?_); refine EqE.mk _ (ad0 _ _) ?_) | refine Cd.om ?_)
  intro _
  refine v9 af ?_
  show _ → Wp' _ _ _ _ _
  intro _
  refine ae6 [0, 1, 5, 7, 8, 9] [1000000] _ _ ⟨.inl rfl, rfl, rfl, by first | rfl | (repeat first | exact all_nil _ | refine bm _ _ _ _ _ ?_)⟩ (yg ?_ (R (top / d) _ _ ⟨top / d, top % d, rfl, by rw [Nat.mul_comm]; exact hdm, by omega, g1, g2, rfl, rfl⟩))
  intro e σ' he
  cases e with
  | goto l =>
   obtain ⟨h1, m', xs', h', hcut, _, hI⟩ := he
   exact ⟨h1, m', xs', h', hcut, hI⟩
  | _ => exact he
 ·intro m xs h hI
  refine v9 af ?_
  show _ → Wp' _ _ _ _ _
  intro _
  exact yg (fun e σ' he => by cases e <;> exact he) (R m xs h hI)
end Go.Ev.Ar

namespace Go.Ev.Ar
open Go Go.Ev Go.Proofs
theorem azk (j : Nat) (h : 1 ≤ j) (hj : j < 4611686018427387904) : IntKind.i64.wrap ((j : Int) - 1 - 1) = ((j - 1 : Nat) : Int) - 1 := by
 rw [aj (by omega) (by omega)]; omega
theorem axd {r d x : Nat} (hr : r < d) (hx : x < 4294967296) : r * 4294967296 + x < 4294967296 * d := by omega
theorem aqo {D Q r d x : Nat} (h : D = Q * d + r) : x + 4294967296 * D = ((r * 4294967296 + x) / d + 4294967296 * Q) * d + (r * 4294967296 + x) % d := by
 have h1 := Nat.div_add_mod (r * 4294967296 + x) d
 rw [Nat.add_mul, Nat.mul_assoc, Nat.mul_comm _ d, h]
 omega
theorem ad1 (l : List UInt32) (j v : Nat) (hj : 1 ≤ j) (hl : j ≤ l.length) (hv : v < 4294967296) : nv ((l.set (j - 1) (UInt32.ofNat v)).drop (j - 1)) = v + 4294967296 * nv (l.drop j) := by
 rw [gw, n6 (by omega), toNat_ofNat hv, show j - 1 + 1 = j by omega]
 have := jd l (j - 1) (UInt32.ofNat v)
 rw [show j - 1 + 1 = j by omega] at this
 rw [this]
theorem axz (v : Nat) (h : v < 4294967296) : [A.d (D.int .u32 (v : Nat))] = (bj [UInt32.ofNat v]).map A.d := by
 simp only [bj, List.map_cons, List.map_nil, toNat_ofNat h]
set_option maxHeartbeats 2000000 in
theorem auw (a : List UInt32) (d : Nat) (ha : a.length < 2^30) (hd : 0 < d) (hd2 : d < 4294967296) : Sim Tryz.prog G0 false 233 [sl a, .int .u32 d] (.tup [sl (ofN (nv a / d)), sl (ofN (nv a % d))]) := by
 refine ao af Tryz.func233 ?_
 repeat' ((conv => whnf); first | refine rgE ?_ | refine Cd.mk rfl ?_ | ((with_reducible refine EqE.idW ?_); with_reducible refine EqE.mk _ (aj (by omega) (by omega)) ?_) | ((with_reducible refine EqE.idR ?_); refine EqE.mk _ (ns _) ?_) | refine Cd.om ?_)
 refine ⟨[], [0, 1, 6, 7, 8], [11], fun m xs h => ∃ (j r : Nat) (Q : List UInt32), m = j ∧ j ≤ a.length ∧ r < d ∧ Q.length = a.length ∧ nv (a.drop j) = nv (Q.drop j) * d + r ∧
  xs = [.d (sl a), .d (.int .u32 d), .own 11 0 a.length 1, .d (.int .u64 r), .d (.int .i64 ((j : Int) - 1))] ∧ h = [(11, false, la Q)],
  ⟨_, _, _, ⟨.inl rfl, rfl, rfl, by first | rfl | (repeat first | exact all_nil _ | refine bm _ _ _ _ _ ?_)⟩, a.length, 0, List.replicate a.length 0, rfl, Nat.le_refl _, hd, by simp, by simp, rfl, rfl⟩, ?_⟩
 rintro j xs h ⟨_, r, Q, rfl, hj, hr, hQ, hv, rfl, rfl⟩
 have hx := bd (a.getD (j - 1) 0)
 have hlt := axd hr hx
 by_cases h1 : 1 ≤ j
 ·have hq := Nat.div_lt_of_lt_mul (show r * 4294967296 + (a.getD (j - 1) 0).toNat < d * 4294967296 by omega)
  have hm := Nat.mod_lt (r * 4294967296 + (a.getD (j - 1) 0).toNat) hd
  repeat' ((conv => whnf); first | with_reducible refine Br.bt fun _ => ?_ | refine ah.mk _ (qw a _ (j - 1) (by omega) (by omega)) ?_ | refine Cd.mk (abl [] Q _ (j - 1) (by omega) (by omega)) ?_ | refine rgE ?_ | refine Cd.mk rfl ?_ | refine an.cu _ _ ?_ | ((with_reducible refine EqE.idW ?_); first | refine EqE.mk _ (azk _ h1 (by omega)) ?_ | with_reducible refine EqE.mk _ (apo _ _ (by omega) (by omega)) ?_ | with_reducible refine EqE.mk _ (ar5 _ _ (by omega)) ?_ | with_reducible refine EqE.mk _ (cj _) ?_ | with_reducible refine EqE.mk _ (abq _ (by omega)) ?_ | with_reducible refine EqE.mk _ (j8 _) ?_ | with_reducible refine EqE.mk _ (amw _ (by omega)) ?_) | ((with_reducible refine EqE.idM ?_); refine EqE.mk _ (ad0 _ _) ?_) | ((with_reducible refine EqE.idS ?_); refine EqE.mk _ (vl [] Q _ (j - 1) _ (by omega) (by omega) (by omega)) ?_) | refine Cd.om ?_)
  generalize hxe : (a.getD (j - 1) 0).toNat = x at *
  refine ⟨_, ⟨j - 1, (r * 4294967296 + x) % d, Q.set (j - 1) (UInt32.ofNat ((r * 4294967296 + x) / d % 4294967296)), rfl, by omega, hm, by rw [List.length_set]; omega, ?_, rfl, rfl⟩, by omega⟩
  rw [Nat.mod_eq_of_lt hq, ad1 _ _ _ h1 (by omega) hq, gw, hxe, show j - 1 + 1 = j by omega]
  exact aqo hv
 ·obtain rfl : j = 0 := by omega
  have hrl : nv [UInt32.ofNat (r % 4294967296)] = r := by rw [fj, vp, toNat_ofNat (Nat.mod_lt _ (by decide))]; omega
  rw [List.drop_zero, List.drop_zero] at hv
  repeat' ((conv => whnf); first | with_reducible refine ag.data ?_ | with_reducible refine Br.bf fun _ => ?_ | refine aa.mk _ _ (fg Q (by omega)) ?_ | refine DsE.mk _ (axz (r % 4294967296) (Nat.mod_lt _ (by decide))) ?_ | refine aa.mk _ _ (fg [UInt32.ofNat (r % 4294967296)] (show 1 < 2^40 by decide)) ?_ | refine rgE ?_ | refine Cd.mk rfl ?_ | refine Res.mk ?_ | refine DsE.mk (bj _) rfl ?_ | ((with_reducible refine EqE.idW ?_); with_reducible refine EqE.mk _ (j8 _) ?_) | ((with_reducible refine EqE.idL ?_); first | refine EqE.mk (sl [UInt32.ofNat (r % 4294967296)]) rfl ?_ | refine EqE.mk _ (ox _ _ _ _ (by omega) (by omega) rfl) ?_) | refine Cd.ol ?_)
  have hqr : nv Q = nv a / d ∧ r = nv a % d := by
   rw [hv]
   refine ⟨?_, ?_⟩
   ·rw [Nat.mul_comm, Nat.mul_add_div hd, Nat.div_eq_of_lt hr]; rfl
   ·rw [Nat.mul_comm, Nat.mul_add_mod, Nat.mod_eq_of_lt hr]
  rw [← hqr.1, ← hqr.2, hrl]
  rfl
theorem a3i (x : UInt32) : Sim Tryz.prog G0 true 234 [.int .u32 x.toNat] (.int .i64 ((32 - nb x.toNat : Nat) : Int)) := by
 have h : nb x.toNat ≤ 32 := uf.2 (bd x)
 refine ao af Tryz.func234 ?_
 repeat' ((conv => whnf); first | with_reducible refine ag.data ?_ | refine aa.mk _ _ (aio x) ?_ | refine rgE ?_ | refine Cd.mk rfl ?_ | refine Res.mk ?_ | ((with_reducible refine EqE.idW ?_); with_reducible refine EqE.mk _ (aj (by omega) (by omega)) ?_))
 show D.int _ _ = D.int _ _
 congr 1; omega
theorem axt {b : Nat} (hb : b ≠ 0) : let s := 32 - nb ((ofN b).getD ((ofN b).length - 1) 0).toNat
  s ≤ 31 ∧ (ofN (b * 2 ^ s)).length = (ofN b).length ∧ 2147483648 ≤ ((ofN (b * 2 ^ s)).getD ((ofN (b * 2 ^ s)).length - 1) 0).toNat := by
 intro s
 have hl : 0 < (ofN b).length := by
  have : ¬ (ofN b).length = 0 := fun h => hb (bp.1 h)
  omega
 have h1 := aps hb
 have ht := bd ((ofN b).getD ((ofN b).length - 1) 0)
 have hnz : ((ofN b).getD ((ofN b).length - 1) 0).toNat ≠ 0 := by
  intro h
  have := (p8 _).1 (p9 b)
  rcases this with h2 | h2
  ·rw [h2] at hl; simp at hl
  ·exact h2 h
 generalize hT : ((ofN b).getD ((ofN b).length - 1) 0).toNat = T at *
 have hn1 : 1 ≤ nb T := by
  apply Classical.byContradiction; intro h
  have : nb T ≤ 0 := by omega
  have := uf.1 this
  omega
 have hn2 : nb T ≤ 32 := uf.2 ht
 have hb2 : b * 2 ^ s ≠ 0 := by
  have := Nat.mul_pos (Nat.pos_of_ne_zero hb) (Nat.pow_pos (n := s) (show 0 < 2 by decide))
  omega
 have hnb : nb (b * 2 ^ s) = nb b + s := by
  have h2 : 2 ^ s ≤ b * 2 ^ s := by
   have := Nat.mul_le_mul_right (2 ^ s) (Nat.pos_of_ne_zero hb)
   rwa [Nat.one_mul] at this
  rw [ac0 h2, Nat.mul_div_cancel _ (Nat.pow_pos (by decide)), Nat.add_comm]
 have h3 := aps hb2
 have hl2 : 0 < (ofN (b * 2 ^ s)).length := by
  have : ¬ (ofN (b * 2 ^ s)).length = 0 := fun h => hb2 (bp.1 h)
  omega
 have ht2 := bd ((ofN (b * 2 ^ s)).getD ((ofN (b * 2 ^ s)).length - 1) 0)
 have hnz2 : ((ofN (b * 2 ^ s)).getD ((ofN (b * 2 ^ s)).length - 1) 0).toNat ≠ 0 := by
  intro h
  have := (p8 _).1 (p9 (b * 2 ^ s))
  rcases this with h2 | h2
  ·rw [h2] at hl2; simp at hl2
  ·exact h2 h
 generalize hT2 : ((ofN (b * 2 ^ s)).getD ((ofN (b * 2 ^ s)).length - 1) 0).toNat = T2 at *
 have hm1 : 1 ≤ nb T2 := by
  apply Classical.byContradiction; intro h
  have : nb T2 ≤ 0 := by omega
  have := uf.1 this
  omega
 have hm2 : nb T2 ≤ 32 := uf.2 ht2
 have hs : s = 32 - nb T := by
  show 32 - nb ((ofN b).getD ((ofN b).length - 1) 0).toNat = _
  rw [hT]
 have hlen : (ofN (b * 2 ^ s)).length = (ofN b).length := by omega
 refine ⟨by omega, hlen, ?_⟩
 have h32 : nb T2 = 32 := by omega
 have := axl hnz2
 rw [h32] at this
 exact this
theorem a0m {a b la lb S : Nat} (ha : a < Pw la) (hb : Pw (lb - 1) ≤ b) (hlb : 1 ≤ lb) (hle : lb ≤ la) (hS : 0 < S) : a * S / Pw (la - lb + 1) < b * S := by
 refine Nat.div_lt_of_lt_mul ?_
 have h1 : Pw la = Pw (la - lb + 1) * Pw (lb - 1) := by rw [← w5]; congr 1; omega
 have h2 : Pw (la - lb + 1) * Pw (lb - 1) ≤ Pw (la - lb + 1) * b := Nat.mul_le_mul_left _ hb
 have h3 : a < Pw (la - lb + 1) * b := by omega
 have := Nat.mul_lt_mul_of_pos_right h3 hS
 rwa [Nat.mul_assoc] at this
theorem awc {U Q v : List UInt32} {L M j N : Nat} (hU : L ≤ U.length) (hQ : Q.length = M) (hj : 1 ≤ j) (hjM : j ≤ M) (hL : L = M - 1 + v.length + 1) (h1 : 1 ≤ M) (hV : 0 < nv v)
  (hN : nv (U.take L) + nv v * (Pw j * nv (Q.drop j)) = N) (hlt : nv ((U.take L).drop j) < nv v) :
  nv ((U.drop (j - 1)).take (v.length + 1)) < 4294967296 * nv v ∧ nv ((U.drop (j - 1)).take (v.length + 1)) / nv v < 4294967296 ∧ (U.take (j - 1) ++ jz (U.drop (j - 1)) v).length = U.length ∧
  nv ((U.take (j - 1) ++ jz (U.drop (j - 1)) v).take L) + nv v * (Pw (j - 1) * nv ((Q.set (j - 1) (UInt32.ofNat (nv ((U.drop (j - 1)).take (v.length + 1)) / nv v))).drop (j - 1))) = N ∧
  nv (((U.take (j - 1) ++ jz (U.drop (j - 1)) v).take L).drop (j - 1)) < nv v := by
 obtain ⟨k, rfl⟩ : ∃ k, j = k + 1 := ⟨j - 1, by omega⟩
 rw [Nat.add_sub_cancel] at *
 obtain ⟨W, hW⟩ : ∃ W, W = U.drop k := ⟨_, rfl⟩
 have hWl : W.length = U.length - k := by rw [hW]; simp
 -- the window, and what lies above it
 have e1 : (U.take L).drop k = W.take (L - k) := by rw [List.drop_take, hW]
 have e2 : (U.take L).drop (k + 1) = (W.take (L - k)).drop 1 := by rw [← e1, List.drop_drop]
 have hnL : v.length + 1 ≤ L - k := by omega
 have hVn : nv v < Pw v.length := dc v
 have h3 : nv (W.take (L - k)) = ((W.take (L - k)).getD 0 0).toNat + 4294967296 * nv ((U.take L).drop (k + 1)) := by
  have := gw (W.take (L - k)) 0
  rw [List.drop_zero] at this
  rw [this, e2]
 have h4 := bd ((W.take (L - k)).getD 0 0)
 have hw : nv (W.take (L - k)) < 4294967296 * nv v := by omega
 have h5 := ir (W.take (L - k)) (v.length + 1) (by rw [List.length_take]; omega)
 rw [List.take_take, Nat.min_eq_left hnL] at h5
 have h6 : nv ((W.take (L - k)).drop (v.length + 1)) = 0 := by
  apply Classical.byContradiction
  intro h
  have h7 := Nat.mul_le_mul_left (Pw (v.length + 1)) (Nat.pos_of_ne_zero h)
  have h8 := c5 v.length
  omega
 rw [h6, Nat.mul_zero, Nat.add_zero] at h5
 rw [h5] at hw
 have hql : nv (W.take (v.length + 1)) / nv v < 4294967296 := Nat.div_lt_of_lt_mul (by rw [Nat.mul_comm]; exact hw)
 have hml := Nat.mod_lt (nv (W.take (v.length + 1))) hV
 have hpl : nv (W.take (v.length + 1)) % nv v < Pw (v.length + 1) := Nat.lt_trans hml (Nat.lt_of_lt_of_le hVn (e8 (by omega)))
 rw [← hW]
 have hsl : (jz W v).length = W.length := by unfold jz; rw [List.length_append, xt hpl, List.length_drop]; omega
 -- the new window
 have hst : (jz W v).take (L - k) = aee (nv (W.take (v.length + 1)) % nv v) (v.length + 1) ++ (W.take (L - k)).drop (v.length + 1) := by
  unfold jz
  rw [List.take_append, xt hpl, List.take_of_length_le (by rw [xt hpl]; omega), List.drop_take]
 have hsn : nv ((jz W v).take (L - k)) = nv (W.take (v.length + 1)) % nv v := by
  rw [hst, l5, asa, xt hpl, h6, Nat.mul_zero, Nat.add_zero]
 have hkL : (U.take k).length = k := by rw [List.length_take]; omega
 have hT : (U.take k ++ jz W v).take L = U.take k ++ (jz W v).take (L - k) := by
  rw [List.take_append, hkL, List.take_of_length_le (by rw [hkL]; omega)]
 have hTd : ((U.take k ++ jz W v).take L).drop k = (jz W v).take (L - k) := by
  rw [hT, List.drop_append, hkL, Nat.sub_self, List.drop_zero, List.drop_of_length_le (by rw [hkL]; omega), List.nil_append]
 refine ⟨hw, hql, by rw [List.length_append, hkL, hsl, hWl]; omega, ?_, ?_⟩
 ·rw [hT, l5, hkL, hsn]
  have h9 := ad1 Q (k + 1) (nv (W.take (v.length + 1)) / nv v) (by omega) (by omega) hql
  rw [Nat.add_sub_cancel] at h9
  rw [h9]
  have h10 := ir (U.take L) k (by rw [List.length_take]; omega)
  rw [e1, List.take_take, Nat.min_eq_left (by omega), h5] at h10
  have h11 := Nat.div_add_mod (nv (W.take (v.length + 1))) (nv v)
  rw [h10] at hN
  rw [← hN, c5]
  generalize nv (W.take (v.length + 1)) / nv v = q at *
  generalize nv (W.take (v.length + 1)) % nv v = r at *
  rw [← h11]
  generalize nv (Q.drop (k + 1)) = X
  generalize nv v = V
  generalize Pw k = P
  grind
 ·rw [hTd, hsn]; exact hml
end Go.Ev.Ar

namespace Go.Ev.Ar
open Go Go.Ev Go.Proofs
theorem ak7 (U : List UInt32) (n : Nat) (h : n ≤ U.length) : D.slice n (((bj U).drop 0).take (n * 1)) = sl (U.take n) := by
 unfold sl bj
 rw [List.drop_zero, Nat.mul_one, List.map_take, List.length_take, Nat.min_eq_left h]
theorem as2 (U : List UInt32) (n : Nat) (h : U.length = n) : D.slice n (((bj U).drop 0).take (n * 1)) = sl U := by
 rw [ak7 U n (by omega), List.take_of_length_le (by omega)]
theorem au1 (U v : List UInt32) (k : Nat) (hU : U.length < 2^32) (hn : 2 ≤ v.length) (hk : k + v.length + 1 ≤ U.length) (htop : 2147483648 ≤ (v.getD (v.length - 1) 0).toNat) (hlt : nv ((U.drop k).take (v.length + 1)) < 4294967296 * nv v) :
  ji Tryz.prog G0 236 [.own 1000000 k (v.length + 1) 1, .d (sl v)] [(1000000, false, la U)] (.d (.int .u32 (nv ((U.drop k).take (v.length + 1)) / nv v : Nat))) [(1000000, false, la (U.take k ++ jz (U.drop k) v))] := by
 have hl : (U.take k).length = k := by rw [List.length_take]; omega
 have h := au0 (U.take k) (U.drop k) v (by rw [hl, List.length_drop]; omega) hn (by rw [List.length_drop]; omega) htop hlt
 rwa [hl, List.take_append_drop] at h
set_option maxHeartbeats 8000000 in
theorem axp (a b : List UInt32) (ha : a.length < 2^26) (hb : b.length < 2^26) (h0 : nv b ≠ 0) : Sim Tryz.prog G0 false 232 [sl a, sl b] (.tup [sl (ofN (nv a / nv b)), sl (ofN (nv a % nv b)), .bool true]) := by
 have c1 := fg a (by omega)
 have c2 := fg b (by omega)
 have l1 := cb a
 have l2 := cb b
 have hnt := axt h0
 dsimp only at hnt
 generalize nv a = x at *
 generalize nv b = y at *
 have vA := aw x
 have vB := aw y
 have hyl : ¬ (ofN y).length = 0 := fun h => h0 (bp.1 h)
 have hxl := (b5 (n := x) (k := (ofN x).length)).1 (Nat.le_refl _)
 have hyp : Pw ((ofN y).length - 1) ≤ y := by
  apply Classical.byContradiction; intro h
  have := (b5 (n := y) (k := (ofN y).length - 1)).2 (by omega)
  omega
 have hxp : (ofN x).length ≠ 0 → Pw ((ofN x).length - 1) ≤ x := by
  intro h3
  apply Classical.byContradiction; intro h
  have := (b5 (n := x) (k := (ofN x).length - 1)).2 (by omega)
  omega
 generalize hAe : ofN x = A at *
 generalize hBe : ofN y = B at *
 have cm := ael A B (by omega) (by omega)
 rw [vA, vB] at cm
 by_cases hlt : x < y
 ·rw [mc hlt] at cm
  rw [Nat.div_eq_of_lt hlt, Nat.mod_eq_of_lt hlt, bh, hAe]
  refine ao af Tryz.func232 ?_
  repeat' ((conv => whnf); first | with_reducible refine ag.data ?_ | refine aa.mk _ _ (c1) ?_ | refine aa.mk _ _ (c2) ?_ | refine aa.mk _ _ (cm) ?_ | refine aa.mk _ _ (ah6 A (by omega)) ?_ | with_reducible refine Br.bf fun _ => ?_ | refine rgE ?_ | refine Cd.mk rfl ?_ | refine Br.t ?_ | refine Res.mk ?_)
  rfl
 have hcm : ¬ u5 x y < 0 := by have := (azx (a := x) (b := y)).2 (by omega); omega
 have hle : B.length ≤ A.length := by
  apply Classical.byContradiction; intro h
  have := q7 (a := x) (b := y) (by rw [hAe, hBe]; omega)
  omega
 by_cases h1 : B.length = 1
 ·have hB1 : B = [B.getD 0 0] := by
   cases B with
   | nil => simp at h1
   | cons z B => simp at h1; subst h1; rfl
  have hd : (B.getD 0 0).toNat = y := by rw [← vB, hB1, fj, vp]; simp
  have sh := auw A (B.getD 0 0).toNat (by omega) (by omega) (bd _)
  rw [vA, hd] at sh
  refine ao af Tryz.func232 ?_
  repeat' ((conv => whnf); first | with_reducible refine ag.data ?_ | refine aa.mk _ _ (c1) ?_ | refine aa.mk _ _ (c2) ?_ | refine aa.mk _ _ (cm) ?_ | with_reducible refine Br.bf fun _ => ?_ | with_reducible refine Br.bt fun _ => ?_ | refine ah.mk _ (qw B 0 0 rfl (by omega)) ?_ | refine aa.mk _ _ ((hd ▸ sh)) ?_ | refine rgE ?_ | refine Cd.mk rfl ?_ | refine ah.mk _ rfl ?_ | refine Res.mk ?_ | refine Cd.om ?_)
  rw [← hd]; rfl
 have hn2 : 2 ≤ B.length := by omega
 obtain ⟨s, hs⟩ : ∃ s, s = 32 - nb (B.getD (B.length - 1) 0).toNat := ⟨_, rfl⟩
 have lz := a3i (B.getD (B.length - 1) 0)
 rw [← hs] at lz hnt
 obtain ⟨hs31, hVl, hVt⟩ := hnt
 have hS : 0 < 2 ^ s := Nat.pow_pos (by decide)
 have hSB : 2 ^ s < 4294967296 := Nat.lt_of_le_of_lt (Nat.pow_le_pow_right (by decide) hs31) (by decide)
 have sV := a1o B s (by omega) (by omega)
 rw [vB, Int.toNat_natCast] at sV
 have sN := ay0 A s (by omega) hs31 (by rw [vA]; omega)
 rw [vA] at sN
 have hx0 : A.length ≠ 0 := by omega
 have hxp := hxp hx0
 -- how long the dividend is
 have hNl : A.length ≤ (ofN (x * 2 ^ s)).length := by
  apply Classical.byContradiction; intro h
  have h3 := (b5 (n := x * 2 ^ s) (k := A.length - 1)).1 (by omega)
  have h4 := Nat.mul_le_mul_left x hS
  rw [Nat.mul_one] at h4
  omega
 have hNu : (ofN (x * 2 ^ s)).length ≤ A.length + 1 := by
  refine b5.2 ?_
  rw [c5, Nat.mul_comm 4294967296]
  exact Nat.mul_lt_mul'' hxl hSB
 have hlead := a0m (b := y) hxl hyp (by omega) hle hS
 have vV := aw (y * 2 ^ s)
 have vN := aw (x * 2 ^ s)
 have hV0 : 0 < y * 2 ^ s := Nat.mul_pos (Nat.pos_of_ne_zero h0) hS
 have hdv : x * 2 ^ s / (y * 2 ^ s) = x / y := Nat.mul_div_mul_right _ _ hS
 have hmv : x * 2 ^ s % (y * 2 ^ s) = x % y * 2 ^ s := Nat.mul_mod_mul_right _ _ _
 generalize hVe : ofN (y * 2 ^ s) = V at *
 generalize hNe : ofN (x * 2 ^ s) = N at *
 refine ao af Tryz.func232 ?_
 repeat' ((conv => whnf); first | refine ag.own (jl.au (sN) [] [(8, 55)] (.own 55 0 N.length 1) [(55, false, la N)] [] ?_) | with_reducible refine ag.data ?_ | refine aa.mk _ _ (c1) ?_ | refine aa.mk _ _ (c2) ?_ | refine aa.mk _ _ (cm) ?_ | with_reducible refine Br.bf fun _ => ?_ | refine ah.mk _ (qw B _ (B.length - 1) (by omega) (by omega)) ?_ | refine aa.mk _ _ (lz) ?_ | refine aa.mk _ _ (sV) ?_ | refine EqE.mk (la (N ++ [0, 0])) (a3e N [0, 0]) ?_ | refine DsE.mk (bj [0, 0]) rfl ?_ | refine Cd.mk (show ∀ c ∈ bj [0, 0], (Ev.A.d c).one = true from aip [0, 0]) ?_ | refine rgE ?_ | refine Cd.mk rfl ?_ | refine DsE.mk (bj _) rfl ?_ | ((with_reducible refine EqE.idW ?_); first | with_reducible refine EqE.mk _ (ax _ (by omega)) ?_ | with_reducible refine EqE.mk _ (aj (by omega) (by omega)) ?_) | ((with_reducible refine EqE.idR ?_); refine EqE.mk _ (ns _) ?_) | refine Cd.ol ?_ | refine Cd.mk ⟨rfl, rfl⟩ ?_ | refine Cd.om ?_)
 have hM : ((A.length : Int) - B.length + 1).toNat = A.length - B.length + 1 := by omega
 have hU0 : nv ((N ++ [0, 0]).take (A.length + 1)) = x * 2 ^ s := by
  have : (N ++ [0, 0]).take (A.length + 1) = N ++ ([0, 0] : List UInt32).take (A.length + 1 - N.length) := by rw [List.take_append, List.take_of_length_le hNu]
  rw [this, l5, vN]
  have : nv (([0, 0] : List UInt32).take (A.length + 1 - N.length)) = 0 := by
   have h5 := apw ([0, 0] : List UInt32) (A.length + 1 - N.length)
   have h6 : nv ([0, 0] : List UInt32) = 0 := rfl
   omega
  rw [this]; simp
 refine ⟨[], [9, 10, 11, 12, 13], [55, 68], fun m xs h => ∃ (o : Bool) (j : Nat) (U Q : List UInt32), m = j ∧ j ≤ A.length - B.length + 1 ∧ U.length = N.length + 2 ∧ Q.length = A.length - B.length + 1 ∧
   nv (U.take (A.length + 1)) + nv V * (Pw j * nv (Q.drop j)) = x * 2 ^ s ∧ nv ((U.take (A.length + 1)).drop j) < nv V ∧
   xs = [.d (.int .i64 s), .d (sl V), .own 55 0 ((A.length : Int) + 1 - 0).toNat 1, .own 68 0 ((A.length : Int) - B.length + 1).toNat 1, .d (.int .i64 ((j : Int) - 1))] ∧ h = bif o then [(55, false, la U), (68, false, la Q)] else [(68, false, la Q), (55, false, la U)],
  ⟨_, _, _, ⟨.inl rfl, rfl, rfl, by first | rfl | (repeat first | exact all_nil _ | refine bm _ _ _ _ _ ?_)⟩, false, ((A.length : Int) - B.length + 1).toNat, N ++ [0, 0], List.replicate ((A.length : Int) - B.length + 1).toNat 0, rfl, by omega, by simp, by rw [List.length_replicate]; exact hM, ?_, ?_, rfl, rfl⟩, ?_⟩
 ·rw [hU0, eb, bo, Nat.zero_div, Nat.mul_zero, Nat.mul_zero, Nat.add_zero]
 ·rw [eb, hU0, vV, hM]; exact hlead
 rintro j xs h ⟨o, _, U, Q, rfl, hj, hU, hQ, hv, hlt2, rfl, rfl⟩
 rw [vV] at hv hlt2
 by_cases hj1 : 1 ≤ j
 ·obtain ⟨d1, d2, d3, d4, d5⟩ := awc (v := V) (M := A.length - B.length + 1) (N := x * 2 ^ s) (U := U) (Q := Q) (L := A.length + 1) (j := j) (by omega) hQ hj1 hj (by omega) (by omega) (by omega) (by rw [vV]; exact hv) (by rw [vV]; exact hlt2)
  have st := au1 U V (j - 1) (by omega) (by omega) (by omega) hVt d1
  obtain ⟨q, hq⟩ : ∃ q, q = nv ((U.drop (j - 1)).take (V.length + 1)) / nv V := ⟨_, rfl⟩
  obtain ⟨U2, hU2⟩ : ∃ q, q = U.take (j - 1) ++ jz (U.drop (j - 1)) V := ⟨_, rfl⟩
  rw [← hq, ← hU2] at st
  rw [← hq] at d2 d4
  rw [← hU2] at d3 d4 d5
  cases o <;> simp only [cond_true, cond_false]
  ·repeat' ((conv => whnf); first | refine ag.own (jl.au (st) [(1000000, 55)] [] (.d (.int .u32 q)) [(55, false, la U2)] [] ?_) | with_reducible refine Br.bt fun _ => ?_ | refine Cd.mk (abl [] Q _ (j - 1) (by omega) (by omega)) ?_ | refine rgE ?_ | refine Cd.mk rfl ?_ | refine an.cu _ _ ?_ | ((with_reducible refine EqE.idW ?_); first | refine EqE.mk _ (azk _ hj1 (by omega)) ?_ | with_reducible refine EqE.mk _ (aj (by omega) (by omega)) ?_) | ((with_reducible refine EqE.idS ?_); refine EqE.mk _ (vl [] Q _ (j - 1) _ (by omega) (by omega) (by omega)) ?_) | refine Cd.om ?_)
   exact ⟨_, ⟨true, j - 1, U2, Q.set (j - 1) (UInt32.ofNat q), rfl, by omega, by omega, by rw [List.length_set]; omega, d4, d5, rfl, rfl⟩, by omega⟩
  ·repeat' ((conv => whnf); first | refine ag.own (jl.au (st) [(1000000, 55)] [] (.d (.int .u32 q)) [(55, false, la U2)] [] ?_) | with_reducible refine Br.bt fun _ => ?_ | refine Cd.mk (abl [] Q _ (j - 1) (by omega) (by omega)) ?_ | refine rgE ?_ | refine Cd.mk rfl ?_ | refine an.cu _ _ ?_ | ((with_reducible refine EqE.idW ?_); first | refine EqE.mk _ (azk _ hj1 (by omega)) ?_ | with_reducible refine EqE.mk _ (aj (by omega) (by omega)) ?_) | ((with_reducible refine EqE.idS ?_); refine EqE.mk _ (vl [] Q _ (j - 1) _ (by omega) (by omega) (by omega)) ?_) | refine Cd.om ?_)
   exact ⟨_, ⟨true, j - 1, U2, Q.set (j - 1) (UInt32.ofNat q), rfl, by omega, by omega, by rw [List.length_set]; omega, d4, d5, rfl, rfl⟩, by omega⟩
 ·obtain rfl : j = 0 := by omega
  rw [List.drop_zero, show Pw 0 = 1 from rfl, Nat.one_mul] at hv
  rw [List.drop_zero] at hlt2
  have hqx : nv Q = x / y ∧ nv (U.take (A.length + 1)) = x % y * 2 ^ s := by
   rw [← hdv, ← hmv, ← hv]
   refine ⟨?_, ?_⟩
   ·rw [Nat.add_mul_div_left _ _ hV0, Nat.div_eq_of_lt hlt2, Nat.zero_add]
   ·rw [Nat.add_mul_mod_self_left, Nat.mod_eq_of_lt hlt2]
  have cq := fg Q (by omega)
  rw [hqx.1] at cq
  have cr := a1p (U.take (A.length + 1)) s (by rw [List.length_take]; omega) (by omega)
  rw [hqx.2, Int.toNat_natCast, Nat.mul_div_cancel _ hS] at cr
  have eL : ((A.length : Int) + 1 - 0).toNat = A.length + 1 := by omega
  cases o <;> simp only [cond_true, cond_false, eL]
  ·repeat' ((conv => whnf); first | with_reducible refine ag.data ?_ | with_reducible refine Br.bf fun _ => ?_ | refine aa.mk _ _ (cq) ?_ | refine aa.mk _ _ (cr) ?_ | refine rgE ?_ | refine Cd.mk rfl ?_ | refine Res.mk ?_ | refine DsE.mk (bj _) rfl ?_ | ((with_reducible refine EqE.idL ?_); first | refine EqE.mk _ (as2 Q _ (by omega)) ?_ | refine EqE.mk _ (ak7 U _ (by omega)) ?_))
   rfl
  ·repeat' ((conv => whnf); first | with_reducible refine ag.data ?_ | with_reducible refine Br.bf fun _ => ?_ | refine aa.mk _ _ (cq) ?_ | refine aa.mk _ _ (cr) ?_ | refine rgE ?_ | refine Cd.mk rfl ?_ | refine Res.mk ?_ | refine DsE.mk (bj _) rfl ?_ | ((with_reducible refine EqE.idL ?_); first | refine EqE.mk _ (as2 Q _ (by omega)) ?_ | refine EqE.mk _ (ak7 U _ (by omega)) ?_))
   rfl
end Go.Ev.Ar
