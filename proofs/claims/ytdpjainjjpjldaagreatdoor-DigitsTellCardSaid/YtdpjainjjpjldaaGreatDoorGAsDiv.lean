/- Contracts of the given functions, on data. Conditions stand in each theorem. -/
import Derived.BigCall
import Derived.BigGuard
import Derived.Deep.RegionWith
import Derived.Shelf.RegionOpenPlain
import Derived.Test.YtdpjainjjpjldaaGreatDoorGEvK
import Derived.Test.YtdpjainjjpjldaaGreatDoorGAsDv
import Derived.Test.YtdpjainjjpjldaaGreatDoorGAsDl
set_option linter.unusedSimpArgs false
set_option linter.unusedVariables false
namespace Go.Ev.Ar
open Go Go.Ev Go.Proofs
theorem ajb (j : Nat) (h : 1 ≤ j) (hj : j < 4611686018427387904) : IntKind.i64.wrap ((j : Int) - 1 - 1) = ((j - 1 : Nat) : Int) - 1 := by
 rw [ah (by omega) (by omega)]; omega
theorem ahw {r d x : Nat} (hr : r < d) (hx : x < 4294967296) : r * 4294967296 + x < 4294967296 * d := by omega
theorem ad4 {D Q r d x : Nat} (h : D = Q * d + r) : x + 4294967296 * D = ((r * 4294967296 + x) / d + 4294967296 * Q) * d + (r * 4294967296 + x) % d := by
 have h1 := Nat.div_add_mod (r * 4294967296 + x) d
 rw [Nat.add_mul, Nat.mul_assoc, Nat.mul_comm _ d, h]
 omega
theorem tp (l : List UInt32) (j v : Nat) (hj : 1 ≤ j) (hl : j ≤ l.length) (hv : v < 4294967296) : nv ((l.set (j - 1) (UInt32.ofNat v)).drop (j - 1)) = v + 4294967296 * nv (l.drop j) := by
 rw [fy, jr (by omega), toNat_ofNat hv, show j - 1 + 1 = j by omega]
 have := fz l (j - 1) (UInt32.ofNat v)
 rw [show j - 1 + 1 = j by omega] at this
 rw [this]
theorem ah8 (v : Nat) (h : v < 4294967296) : [A.d (D.int .u32 (v : Nat))] = (a8 [UInt32.ofNat v]).map A.d := by
 simp only [a8, List.map_cons, List.map_nil, toNat_ofNat h]
set_option maxHeartbeats 2000000 in
theorem aga (a : List UInt32) (d : Nat) (ha : a.length < 2^30) (hd : 0 < d) (hd2 : d < 4294967296) : Sim Tryz.prog G0 false 137 [sl a, .int .u32 d] (.tup [sl (ofN (nv a / d)), sl (ofN (nv a % d))]) := by
 refine ck ax Tryz.func137 ?_
 repeat' ((conv => whnf); first | refine rgE ?_ | refine Cd.mk rfl ?_ | ((with_reducible refine EqE.idW ?_); with_reducible refine EqE.mk _ (ah (by omega) (by omega)) ?_) | ((with_reducible refine EqE.idR ?_); refine EqE.mk _ (b7 _) ?_) | refine Cd.om ?_)
 refine ⟨[], [0, 1, 6, 7, 8], [11], fun m xs h => ∃ (j r : Nat) (Q : List UInt32), m = j ∧ j ≤ a.length ∧ r < d ∧ Q.length = a.length ∧ nv (a.drop j) = nv (Q.drop j) * d + r ∧
  xs = [.d (sl a), .d (.int .u32 d), .own 11 0 a.length 1, .d (.int .u64 r), .d (.int .i64 ((j : Int) - 1))] ∧ h = [(11, false, la Q)],
  ⟨_, _, _, ⟨.inl rfl, rfl, rfl, by first | rfl | (repeat first | exact all_nil _ | refine cb _ _ _ _ _ ?_)⟩, a.length, 0, List.replicate a.length 0, rfl, Nat.le_refl _, hd, by simp, by simp, rfl, rfl⟩, ?_⟩
 rintro j xs h ⟨_, r, Q, rfl, hj, hr, hQ, hv, rfl, rfl⟩
 have hx := ca (a.getD (j - 1) 0)
 have hlt := ahw hr hx
 by_cases h1 : 1 ≤ j
 ·have hq := Nat.div_lt_of_lt_mul (show r * 4294967296 + (a.getD (j - 1) 0).toNat < d * 4294967296 by omega)
  have hm := Nat.mod_lt (r * 4294967296 + (a.getD (j - 1) 0).toNat) hd
  repeat' ((conv => whnf); first | with_reducible refine Br.bt fun _ => ?_ | refine an.mk _ (kv a _ (j - 1) (by omega) (by omega)) ?_ | refine Cd.mk (q9 [] Q _ (j - 1) (by omega) (by omega)) ?_ | refine rgE ?_ | refine Cd.mk rfl ?_ | refine ai.cu _ _ ?_ | ((with_reducible refine EqE.idW ?_); first | refine EqE.mk _ (ajb _ h1 (by omega)) ?_ | with_reducible refine EqE.mk _ (adj _ _ (by omega) (by omega)) ?_ | with_reducible refine EqE.mk _ (aey _ _ (by omega)) ?_ | with_reducible refine EqE.mk _ (ar _) ?_ | with_reducible refine EqE.mk _ (b6 _ (by omega)) ?_ | with_reducible refine EqE.mk _ (cl _) ?_ | with_reducible refine EqE.mk _ (ed _ (by omega)) ?_) | ((with_reducible refine EqE.idM ?_); refine EqE.mk _ (bn _ _) ?_) | ((with_reducible refine EqE.idS ?_); refine EqE.mk _ (ng [] Q _ (j - 1) _ (by omega) (by omega) (by omega)) ?_) | refine Cd.om ?_)
  generalize hxe : (a.getD (j - 1) 0).toNat = x at *
  refine ⟨_, ⟨j - 1, (r * 4294967296 + x) % d, Q.set (j - 1) (UInt32.ofNat ((r * 4294967296 + x) / d % 4294967296)), rfl, by omega, hm, by rw [List.length_set]; omega, ?_, rfl, rfl⟩, by omega⟩
  rw [Nat.mod_eq_of_lt hq, tp _ _ _ h1 (by omega) hq, fy, hxe, show j - 1 + 1 = j by omega]
  exact ad4 hv
 ·obtain rfl : j = 0 := by omega
  have hrl : nv [UInt32.ofNat (r % 4294967296)] = r := by rw [ey, nj, toNat_ofNat (Nat.mod_lt _ (by decide))]; omega
  rw [List.drop_zero, List.drop_zero] at hv
  repeat' ((conv => whnf); first | refine aw.data ?_ | with_reducible refine Br.bf fun _ => ?_ | refine cE (fv Q (by omega)) ?_ | refine DsE.mk _ (ah8 (r % 4294967296) (Nat.mod_lt _ (by decide))) ?_ | refine cE (fv [UInt32.ofNat (r % 4294967296)] (show 1 < 2^40 by decide)) ?_ | refine rgE ?_ | refine Cd.mk rfl ?_ | refine Res.mk ?_ | refine DsE.mk (a8 _) rfl ?_ | ((with_reducible refine EqE.idW ?_); with_reducible refine EqE.mk _ (cl _) ?_) | ((with_reducible refine EqE.idL ?_); first | refine EqE.mk (sl [UInt32.ofNat (r % 4294967296)]) rfl ?_ | refine EqE.mk _ (av _ _ _ _ (by omega) (by omega) rfl) ?_) | refine Cd.ol ?_)
  have hqr : nv Q = nv a / d ∧ r = nv a % d := by
   rw [hv]
   refine ⟨?_, ?_⟩
   ·rw [Nat.mul_comm, Nat.mul_add_div hd, Nat.div_eq_of_lt hr]; rfl
   ·rw [Nat.mul_comm, Nat.mul_add_mod, Nat.mod_eq_of_lt hr]
  rw [← hqr.1, ← hqr.2, hrl]
  rfl
theorem al5 (x : UInt32) : Sim Tryz.prog G0 true 138 [.int .u32 x.toNat] (.int .i64 ((32 - nb x.toNat : Nat) : Int)) := by
 have h : nb x.toNat ≤ 32 := lj.2 (ca x)
 refine ck ax Tryz.func138 ?_
 repeat' ((conv => whnf); first | refine aw.data ?_ | refine cE (afy x) ?_ | refine rgE ?_ | refine Cd.mk rfl ?_ | refine Res.mk ?_ | ((with_reducible refine EqE.idW ?_); with_reducible refine EqE.mk _ (ah (by omega) (by omega)) ?_))
 show D.int _ _ = D.int _ _
 congr 1; omega
theorem ah3 {b : Nat} (hb : b ≠ 0) : let s := 32 - nb ((ofN b).getD ((ofN b).length - 1) 0).toNat
  s ≤ 31 ∧ (ofN (b * 2 ^ s)).length = (ofN b).length ∧ 2147483648 ≤ ((ofN (b * 2 ^ s)).getD ((ofN (b * 2 ^ s)).length - 1) 0).toNat := by
 intro s
 have hl : 0 < (ofN b).length := by
  have : ¬ (ofN b).length = 0 := fun h => hb (da.1 h)
  omega
 have h1 := adm hb
 have ht := ca ((ofN b).getD ((ofN b).length - 1) 0)
 have hnz : ((ofN b).getD ((ofN b).length - 1) 0).toNat ≠ 0 := by
  intro h
  have := (r7 _).1 (l9 b)
  rcases this with h2 | h2
  ·rw [h2] at hl; simp at hl
  ·exact h2 h
 generalize hT : ((ofN b).getD ((ofN b).length - 1) 0).toNat = T at *
 have hn1 : 1 ≤ nb T := by
  apply Classical.byContradiction; intro h
  have : nb T ≤ 0 := by omega
  have := lj.1 this
  omega
 have hn2 : nb T ≤ 32 := lj.2 ht
 have hb2 : b * 2 ^ s ≠ 0 := by
  have := Nat.mul_pos (Nat.pos_of_ne_zero hb) (Nat.pow_pos (n := s) (show 0 < 2 by decide))
  omega
 have hnb : nb (b * 2 ^ s) = nb b + s := by
  have h2 : 2 ^ s ≤ b * 2 ^ s := by
   have := Nat.mul_le_mul_right (2 ^ s) (Nat.pos_of_ne_zero hb)
   rwa [Nat.one_mul] at this
  rw [qi h2, Nat.mul_div_cancel _ (Nat.pow_pos (by decide)), Nat.add_comm]
 have h3 := adm hb2
 have hl2 : 0 < (ofN (b * 2 ^ s)).length := by
  have : ¬ (ofN (b * 2 ^ s)).length = 0 := fun h => hb2 (da.1 h)
  omega
 have ht2 := ca ((ofN (b * 2 ^ s)).getD ((ofN (b * 2 ^ s)).length - 1) 0)
 have hnz2 : ((ofN (b * 2 ^ s)).getD ((ofN (b * 2 ^ s)).length - 1) 0).toNat ≠ 0 := by
  intro h
  have := (r7 _).1 (l9 (b * 2 ^ s))
  rcases this with h2 | h2
  ·rw [h2] at hl2; simp at hl2
  ·exact h2 h
 generalize hT2 : ((ofN (b * 2 ^ s)).getD ((ofN (b * 2 ^ s)).length - 1) 0).toNat = T2 at *
 have hm1 : 1 ≤ nb T2 := by
  apply Classical.byContradiction; intro h
  have : nb T2 ≤ 0 := by omega
  have := lj.1 this
  omega
 have hm2 : nb T2 ≤ 32 := lj.2 ht2
 have hs : s = 32 - nb T := by
  show 32 - nb ((ofN b).getD ((ofN b).length - 1) 0).toNat = _
  rw [hT]
 have hlen : (ofN (b * 2 ^ s)).length = (ofN b).length := by omega
 refine ⟨by omega, hlen, ?_⟩
 have h32 : nb T2 = 32 := by omega
 have := alb hnz2
 rw [h32] at this
 exact this
theorem aj4 {a b la lb S : Nat} (ha : a < Pw la) (hb : Pw (lb - 1) ≤ b) (hlb : 1 ≤ lb) (hle : lb ≤ la) (hS : 0 < S) : a * S / Pw (la - lb + 1) < b * S := by
 refine Nat.div_lt_of_lt_mul ?_
 have h1 : Pw la = Pw (la - lb + 1) * Pw (lb - 1) := by rw [← p9]; congr 1; omega
 have h2 : Pw (la - lb + 1) * Pw (lb - 1) ≤ Pw (la - lb + 1) * b := Nat.mul_le_mul_left _ hb
 have h3 : a < Pw (la - lb + 1) * b := by omega
 have := Nat.mul_lt_mul_of_pos_right h3 hS
 rwa [Nat.mul_assoc] at this
theorem ag5 {U Q v : List UInt32} {L M j N : Nat} (hU : L ≤ U.length) (hQ : Q.length = M) (hj : 1 ≤ j) (hjM : j ≤ M) (hL : L = M - 1 + v.length + 1) (h1 : 1 ≤ M) (hV : 0 < nv v)
  (hN : nv (U.take L) + nv v * (Pw j * nv (Q.drop j)) = N) (hlt : nv ((U.take L).drop j) < nv v) :
  nv ((U.drop (j - 1)).take (v.length + 1)) < 4294967296 * nv v ∧ nv ((U.drop (j - 1)).take (v.length + 1)) / nv v < 4294967296 ∧ (U.take (j - 1) ++ gn (U.drop (j - 1)) v).length = U.length ∧
  nv ((U.take (j - 1) ++ gn (U.drop (j - 1)) v).take L) + nv v * (Pw (j - 1) * nv ((Q.set (j - 1) (UInt32.ofNat (nv ((U.drop (j - 1)).take (v.length + 1)) / nv v))).drop (j - 1))) = N ∧
  nv (((U.take (j - 1) ++ gn (U.drop (j - 1)) v).take L).drop (j - 1)) < nv v := by
 obtain ⟨k, rfl⟩ : ∃ k, j = k + 1 := ⟨j - 1, by omega⟩
 rw [Nat.add_sub_cancel] at *
 obtain ⟨W, hW⟩ : ∃ W, W = U.drop k := ⟨_, rfl⟩
 have hWl : W.length = U.length - k := by rw [hW]; simp
 -- the window, and what lies above it
 have e1 : (U.take L).drop k = W.take (L - k) := by rw [List.drop_take, hW]
 have e2 : (U.take L).drop (k + 1) = (W.take (L - k)).drop 1 := by rw [← e1, List.drop_drop]
 have hnL : v.length + 1 ≤ L - k := by omega
 have hVn : nv v < Pw v.length := fi v
 have h3 : nv (W.take (L - k)) = ((W.take (L - k)).getD 0 0).toNat + 4294967296 * nv ((U.take L).drop (k + 1)) := by
  have := fy (W.take (L - k)) 0
  rw [List.drop_zero] at this
  rw [this, e2]
 have h4 := ca ((W.take (L - k)).getD 0 0)
 have hw : nv (W.take (L - k)) < 4294967296 * nv v := by omega
 have h5 := gr (W.take (L - k)) (v.length + 1) (by rw [List.length_take]; omega)
 rw [List.take_take, Nat.min_eq_left hnL] at h5
 have h6 : nv ((W.take (L - k)).drop (v.length + 1)) = 0 := by
  apply Classical.byContradiction
  intro h
  have h7 := Nat.mul_le_mul_left (Pw (v.length + 1)) (Nat.pos_of_ne_zero h)
  have h8 := dq v.length
  omega
 rw [h6, Nat.mul_zero, Nat.add_zero] at h5
 rw [h5] at hw
 have hql : nv (W.take (v.length + 1)) / nv v < 4294967296 := Nat.div_lt_of_lt_mul (by rw [Nat.mul_comm]; exact hw)
 have hml := Nat.mod_lt (nv (W.take (v.length + 1))) hV
 have hpl : nv (W.take (v.length + 1)) % nv v < Pw (v.length + 1) := Nat.lt_trans hml (Nat.lt_of_lt_of_le hVn (ix (by omega)))
 rw [← hW]
 have hsl : (gn W v).length = W.length := by unfold gn; rw [List.length_append, ou hpl, List.length_drop]; omega
 -- the new window
 have hst : (gn W v).take (L - k) = ue (nv (W.take (v.length + 1)) % nv v) (v.length + 1) ++ (W.take (L - k)).drop (v.length + 1) := by
  unfold gn
  rw [List.take_append, ou hpl, List.take_of_length_le (by rw [ou hpl]; omega), List.drop_take]
 have hsn : nv ((gn W v).take (L - k)) = nv (W.take (v.length + 1)) % nv v := by
  rw [hst, iu, ae1, ou hpl, h6, Nat.mul_zero, Nat.add_zero]
 have hkL : (U.take k).length = k := by rw [List.length_take]; omega
 have hT : (U.take k ++ gn W v).take L = U.take k ++ (gn W v).take (L - k) := by
  rw [List.take_append, hkL, List.take_of_length_le (by rw [hkL]; omega)]
 have hTd : ((U.take k ++ gn W v).take L).drop k = (gn W v).take (L - k) := by
  rw [hT, List.drop_append, hkL, Nat.sub_self, List.drop_zero, List.drop_of_length_le (by rw [hkL]; omega), List.nil_append]
 refine ⟨hw, hql, by rw [List.length_append, hkL, hsl, hWl]; omega, ?_, ?_⟩
 ·rw [hT, iu, hkL, hsn]
  have h9 := tp Q (k + 1) (nv (W.take (v.length + 1)) / nv v) (by omega) (by omega) hql
  rw [Nat.add_sub_cancel] at h9
  rw [h9]
  have h10 := gr (U.take L) k (by rw [List.length_take]; omega)
  rw [e1, List.take_take, Nat.min_eq_left (by omega), h5] at h10
  have h11 := Nat.div_add_mod (nv (W.take (v.length + 1))) (nv v)
  rw [h10] at hN
  rw [← hN, dq]
  generalize nv (W.take (v.length + 1)) / nv v = q at *
  generalize nv (W.take (v.length + 1)) % nv v = r at *
  rw [← h11]
  generalize nv (Q.drop (k + 1)) = X
  generalize nv v = V
  generalize Pw k = P
  grind
 ·rw [hTd, hsn]; exact hml
end Go.Ev.Ar

namespace Go.Ev.Ar
open Go Go.Ev Go.Proofs
theorem aai (U : List UInt32) (n : Nat) (h : n ≤ U.length) : D.slice n (((a8 U).drop 0).take (n * 1)) = sl (U.take n) := by
 unfold sl a8
 rw [List.drop_zero, Nat.mul_one, List.map_take, List.length_take, Nat.min_eq_left h]
theorem ae7 (U : List UInt32) (n : Nat) (h : U.length = n) : D.slice n (((a8 U).drop 0).take (n * 1)) = sl U := by
 rw [aai U n (by omega), List.take_of_length_le (by omega)]
theorem agd (U v : List UInt32) (k : Nat) (hU : U.length < 2^32) (hn : 2 ≤ v.length) (hk : k + v.length + 1 ≤ U.length) (htop : 2147483648 ≤ (v.getD (v.length - 1) 0).toNat) (hlt : nv ((U.drop k).take (v.length + 1)) < 4294967296 * nv v) :
  qu Tryz.prog G0 140 [.own 1000000 k (v.length + 1) 1, .d (sl v)] [(1000000, false, la U)] (.d (.int .u32 (nv ((U.drop k).take (v.length + 1)) / nv v : Nat))) [(1000000, false, la (U.take k ++ gn (U.drop k) v))] := by
 have hl : (U.take k).length = k := by rw [List.length_take]; omega
 have h := agc (U.take k) (U.drop k) v (by rw [hl, List.length_drop]; omega) hn (by rw [List.length_drop]; omega) htop hlt
 rwa [hl, List.take_append_drop] at h
set_option maxHeartbeats 8000000 in
theorem ah1 (a b : List UInt32) (ha : a.length < 2^26) (hb : b.length < 2^26) (h0 : nv b ≠ 0) : Sim Tryz.prog G0 false 59 [sl a, sl b] (.tup [sl (ofN (nv a / nv b)), sl (ofN (nv a % nv b)), .bool true]) := by
 have c1 := fv a (by omega)
 have c2 := fv b (by omega)
 have l1 := dj a
 have l2 := dj b
 have hnt := ah3 h0
 dsimp only at hnt
 generalize nv a = x at *
 generalize nv b = y at *
 have vA := bj x
 have vB := bj y
 have hyl : ¬ (ofN y).length = 0 := fun h => h0 (da.1 h)
 have hxl := (cz (n := x) (k := (ofN x).length)).1 (Nat.le_refl _)
 have hyp : Pw ((ofN y).length - 1) ≤ y := by
  apply Classical.byContradiction; intro h
  have := (cz (n := y) (k := (ofN y).length - 1)).2 (by omega)
  omega
 have hxp : (ofN x).length ≠ 0 → Pw ((ofN x).length - 1) ≤ x := by
  intro h3
  apply Classical.byContradiction; intro h
  have := (cz (n := x) (k := (ofN x).length - 1)).2 (by omega)
  omega
 generalize hAe : ofN x = A at *
 generalize hBe : ofN y = B at *
 have cm := ajm A B (by omega) (by omega)
 rw [vA, vB] at cm
 by_cases hlt : x < y
 ·rw [q0 hlt] at cm
  rw [Nat.div_eq_of_lt hlt, Nat.mod_eq_of_lt hlt, cy, hAe]
  refine ck ax Tryz.func59 ?_
  repeat' ((conv => whnf); first | refine aw.data ?_ | refine cE c1 ?_ | refine cE c2 ?_ | refine cE cm ?_ | refine cE (yc A (by omega)) ?_ | with_reducible refine Br.bf fun _ => ?_ | refine rgE ?_ | refine Cd.mk rfl ?_ | refine Br.t ?_ | refine Res.mk ?_)
  rfl
 have hcm : ¬ r6 x y < 0 := by have := (qz (a := x) (b := y)).2 (by omega); omega
 have hle : B.length ≤ A.length := by
  apply Classical.byContradiction; intro h
  have := ky (a := x) (b := y) (by rw [hAe, hBe]; omega)
  omega
 by_cases h1 : B.length = 1
 ·have hB1 : B = [B.getD 0 0] := by
   cases B with
   | nil => simp at h1
   | cons z B => simp at h1; subst h1; rfl
  have hd : (B.getD 0 0).toNat = y := by rw [← vB, hB1, ey, nj]; simp
  have sh := aga A (B.getD 0 0).toNat (by omega) (by omega) (ca _)
  rw [vA, hd] at sh
  refine ck ax Tryz.func59 ?_
  repeat' ((conv => whnf); first | refine aw.data ?_ | refine cE c1 ?_ | refine cE c2 ?_ | refine cE cm ?_ | with_reducible refine Br.bf fun _ => ?_ | with_reducible refine Br.bt fun _ => ?_ | refine an.mk _ (kv B 0 0 rfl (by omega)) ?_ | refine cE ((hd ▸ sh)) ?_ | refine rgE ?_ | refine Cd.mk rfl ?_ | refine an.mk _ rfl ?_ | refine Res.mk ?_ | refine Cd.om ?_)
  rw [← hd]; rfl
 have hn2 : 2 ≤ B.length := by omega
 obtain ⟨s, hs⟩ : ∃ s, s = 32 - nb (B.getD (B.length - 1) 0).toNat := ⟨_, rfl⟩
 have lz := al5 (B.getD (B.length - 1) 0)
 rw [← hs] at lz hnt
 obtain ⟨hs31, hVl, hVt⟩ := hnt
 have hS : 0 < 2 ^ s := Nat.pow_pos (by decide)
 have hSB : 2 ^ s < 4294967296 := Nat.lt_of_le_of_lt (Nat.pow_le_pow_right (by decide) hs31) (by decide)
 have sV := akm B s (by omega) (by omega)
 rw [vB, Int.toNat_natCast] at sV
 have sN := aiw A s (by omega) hs31 (by rw [vA]; omega)
 rw [vA] at sN
 have hx0 : A.length ≠ 0 := by omega
 have hxp := hxp hx0
 -- how long the dividend is
 have hNl : A.length ≤ (ofN (x * 2 ^ s)).length := by
  apply Classical.byContradiction; intro h
  have h3 := (cz (n := x * 2 ^ s) (k := A.length - 1)).1 (by omega)
  have h4 := Nat.mul_le_mul_left x hS
  rw [Nat.mul_one] at h4
  omega
 have hNu : (ofN (x * 2 ^ s)).length ≤ A.length + 1 := by
  refine cz.2 ?_
  rw [dq, Nat.mul_comm 4294967296]
  exact Nat.mul_lt_mul'' hxl hSB
 have hlead := aj4 (b := y) hxl hyp (by omega) hle hS
 have vV := bj (y * 2 ^ s)
 have vN := bj (x * 2 ^ s)
 have hV0 : 0 < y * 2 ^ s := Nat.mul_pos (Nat.pos_of_ne_zero h0) hS
 have hdv : x * 2 ^ s / (y * 2 ^ s) = x / y := Nat.mul_div_mul_right _ _ hS
 have hmv : x * 2 ^ s % (y * 2 ^ s) = x % y * 2 ^ s := Nat.mul_mod_mul_right _ _ _
 generalize hVe : ofN (y * 2 ^ s) = V at *
 generalize hNe : ofN (x * 2 ^ s) = N at *
 refine ck ax Tryz.func59 ?_
 repeat' ((conv => whnf); first | refine aw.own (ny.au (sN) [] [(8, 55)] (.own 55 0 N.length 1) [(55, false, la N)] [] ?_) | refine aw.data ?_ | refine cE c1 ?_ | refine cE c2 ?_ | refine cE cm ?_ | with_reducible refine Br.bf fun _ => ?_ | refine an.mk _ (kv B _ (B.length - 1) (by omega) (by omega)) ?_ | refine cE lz ?_ | refine cE sV ?_ | refine EqE.mk (la (N ++ [0, 0])) (dd N [0, 0]) ?_ | refine DsE.mk (a8 [0, 0]) rfl ?_ | refine Cd.mk (show ∀ c ∈ a8 [0, 0], (Ev.A.d c).one = true from bc [0, 0]) ?_ | refine rgE ?_ | refine Cd.mk rfl ?_ | refine DsE.mk (a8 _) rfl ?_ | ((with_reducible refine EqE.idW ?_); first | with_reducible refine EqE.mk _ (aq _ (by omega)) ?_ | with_reducible refine EqE.mk _ (ah (by omega) (by omega)) ?_) | ((with_reducible refine EqE.idR ?_); refine EqE.mk _ (b7 _) ?_) | refine Cd.ol ?_ | refine Cd.mk ⟨rfl, rfl⟩ ?_ | refine Cd.om ?_)
 have hM : ((A.length : Int) - B.length + 1).toNat = A.length - B.length + 1 := by omega
 have hU0 : nv ((N ++ [0, 0]).take (A.length + 1)) = x * 2 ^ s := by
  have : (N ++ [0, 0]).take (A.length + 1) = N ++ ([0, 0] : List UInt32).take (A.length + 1 - N.length) := by rw [List.take_append, List.take_of_length_le hNu]
  rw [this, iu, vN]
  have : nv (([0, 0] : List UInt32).take (A.length + 1 - N.length)) = 0 := by
   have h5 := adp ([0, 0] : List UInt32) (A.length + 1 - N.length)
   have h6 : nv ([0, 0] : List UInt32) = 0 := rfl
   omega
  rw [this]; simp
 refine ⟨[], [9, 10, 11, 12, 13], [55, 68], fun m xs h => ∃ (o : Bool) (j : Nat) (U Q : List UInt32), m = j ∧ j ≤ A.length - B.length + 1 ∧ U.length = N.length + 2 ∧ Q.length = A.length - B.length + 1 ∧
   nv (U.take (A.length + 1)) + nv V * (Pw j * nv (Q.drop j)) = x * 2 ^ s ∧ nv ((U.take (A.length + 1)).drop j) < nv V ∧
   xs = [.d (.int .i64 s), .d (sl V), .own 55 0 ((A.length : Int) + 1 - 0).toNat 1, .own 68 0 ((A.length : Int) - B.length + 1).toNat 1, .d (.int .i64 ((j : Int) - 1))] ∧ h = bif o then [(55, false, la U), (68, false, la Q)] else [(68, false, la Q), (55, false, la U)],
  ⟨_, _, _, ⟨.inl rfl, rfl, rfl, by first | rfl | (repeat first | exact all_nil _ | refine cb _ _ _ _ _ ?_)⟩, false, ((A.length : Int) - B.length + 1).toNat, N ++ [0, 0], List.replicate ((A.length : Int) - B.length + 1).toNat 0, rfl, by omega, by simp, by rw [List.length_replicate]; exact hM, ?_, ?_, rfl, rfl⟩, ?_⟩
 ·rw [hU0, et, cg, Nat.zero_div, Nat.mul_zero, Nat.mul_zero, Nat.add_zero]
 ·rw [et, hU0, vV, hM]; exact hlead
 rintro j xs h ⟨o, _, U, Q, rfl, hj, hU, hQ, hv, hlt2, rfl, rfl⟩
 rw [vV] at hv hlt2
 by_cases hj1 : 1 ≤ j
 ·obtain ⟨d1, d2, d3, d4, d5⟩ := ag5 (v := V) (M := A.length - B.length + 1) (N := x * 2 ^ s) (U := U) (Q := Q) (L := A.length + 1) (j := j) (by omega) hQ hj1 hj (by omega) (by omega) (by omega) (by rw [vV]; exact hv) (by rw [vV]; exact hlt2)
  have st := agd U V (j - 1) (by omega) (by omega) (by omega) hVt d1
  obtain ⟨q, hq⟩ : ∃ q, q = nv ((U.drop (j - 1)).take (V.length + 1)) / nv V := ⟨_, rfl⟩
  obtain ⟨U2, hU2⟩ : ∃ q, q = U.take (j - 1) ++ gn (U.drop (j - 1)) V := ⟨_, rfl⟩
  rw [← hq, ← hU2] at st
  rw [← hq] at d2 d4
  rw [← hU2] at d3 d4 d5
  cases o <;> simp only [cond_true, cond_false]
  ·repeat' ((conv => whnf); first | refine aw.own (ny.au (st) [(1000000, 55)] [] (.d (.int .u32 q)) [(55, false, la U2)] [] ?_) | with_reducible refine Br.bt fun _ => ?_ | refine Cd.mk (q9 [] Q _ (j - 1) (by omega) (by omega)) ?_ | refine rgE ?_ | refine Cd.mk rfl ?_ | refine ai.cu _ _ ?_ | ((with_reducible refine EqE.idW ?_); first | refine EqE.mk _ (ajb _ hj1 (by omega)) ?_ | with_reducible refine EqE.mk _ (ah (by omega) (by omega)) ?_) | ((with_reducible refine EqE.idS ?_); refine EqE.mk _ (ng [] Q _ (j - 1) _ (by omega) (by omega) (by omega)) ?_) | refine Cd.om ?_)
   exact ⟨_, ⟨true, j - 1, U2, Q.set (j - 1) (UInt32.ofNat q), rfl, by omega, by omega, by rw [List.length_set]; omega, d4, d5, rfl, rfl⟩, by omega⟩
  ·repeat' ((conv => whnf); first | refine aw.own (ny.au (st) [(1000000, 55)] [] (.d (.int .u32 q)) [(55, false, la U2)] [] ?_) | with_reducible refine Br.bt fun _ => ?_ | refine Cd.mk (q9 [] Q _ (j - 1) (by omega) (by omega)) ?_ | refine rgE ?_ | refine Cd.mk rfl ?_ | refine ai.cu _ _ ?_ | ((with_reducible refine EqE.idW ?_); first | refine EqE.mk _ (ajb _ hj1 (by omega)) ?_ | with_reducible refine EqE.mk _ (ah (by omega) (by omega)) ?_) | ((with_reducible refine EqE.idS ?_); refine EqE.mk _ (ng [] Q _ (j - 1) _ (by omega) (by omega) (by omega)) ?_) | refine Cd.om ?_)
   exact ⟨_, ⟨true, j - 1, U2, Q.set (j - 1) (UInt32.ofNat q), rfl, by omega, by omega, by rw [List.length_set]; omega, d4, d5, rfl, rfl⟩, by omega⟩
 ·obtain rfl : j = 0 := by omega
  rw [List.drop_zero, show Pw 0 = 1 from rfl, Nat.one_mul] at hv
  rw [List.drop_zero] at hlt2
  have hqx : nv Q = x / y ∧ nv (U.take (A.length + 1)) = x % y * 2 ^ s := by
   rw [← hdv, ← hmv, ← hv]
   refine ⟨?_, ?_⟩
   ·rw [Nat.add_mul_div_left _ _ hV0, Nat.div_eq_of_lt hlt2, Nat.zero_add]
   ·rw [Nat.add_mul_mod_self_left, Nat.mod_eq_of_lt hlt2]
  have cq := fv Q (by omega)
  rw [hqx.1] at cq
  have cr := akn (U.take (A.length + 1)) s (by rw [List.length_take]; omega) (by omega)
  rw [hqx.2, Int.toNat_natCast, Nat.mul_div_cancel _ hS] at cr
  have eL : ((A.length : Int) + 1 - 0).toNat = A.length + 1 := by omega
  cases o <;> simp only [cond_true, cond_false, eL]
  ·repeat' ((conv => whnf); first | refine aw.data ?_ | with_reducible refine Br.bf fun _ => ?_ | refine cE cq ?_ | refine cE cr ?_ | refine rgE ?_ | refine Cd.mk rfl ?_ | refine Res.mk ?_ | refine DsE.mk (a8 _) rfl ?_ | ((with_reducible refine EqE.idL ?_); first | refine EqE.mk _ (ae7 Q _ (by omega)) ?_ | refine EqE.mk _ (aai U _ (by omega)) ?_))
   rfl
  ·repeat' ((conv => whnf); first | refine aw.data ?_ | with_reducible refine Br.bf fun _ => ?_ | refine cE cq ?_ | refine cE cr ?_ | refine rgE ?_ | refine Cd.mk rfl ?_ | refine Res.mk ?_ | refine DsE.mk (a8 _) rfl ?_ | ((with_reducible refine EqE.idL ?_); first | refine EqE.mk _ (ae7 Q _ (by omega)) ?_ | refine EqE.mk _ (aai U _ (by omega)) ?_))
   rfl
end Go.Ev.Ar

-- STR
namespace Go.Ev.Ar
open Go Go.Ev Go.Proofs Go.RowKit
theorem xe (neg : Bool) (l : List UInt8) (hl : l.length < 576460752303423488) : Sim Tryz.prog G0 true 62 [.bool neg, .str (bst l)]
    (.str (bst (if l.dropWhile (· == 48) = [] then [48] else if neg then 45 :: l.dropWhile (· == 48) else l.dropWhile (· == 48)))) := by
  have s := agk l (by omega)
  have hz : (l.dropWhile (· == 48)).length ≤ l.length := (List.dropWhile_sublist _).length_le
  obtain ⟨z, hz2⟩ : ∃ z, l.dropWhile (· == 48) = z := ⟨_, rfl⟩
  rw [hz2] at s hz ⊢
  refine ck ax Tryz.func62 ?_
  repeat' ((conv => whnf); first | refine aw.data ?_ | refine cE s ?_ | refine rgE ?_ | refine Cd.mk rfl ?_ | refine Br.t ?_ | refine Br.f ?_ | with_reducible refine Br.dec (fun _ => ?_) (fun _ => ?_) | with_reducible refine Br.br (fun _ => ?_) (fun _ => ?_) | refine Br.mk (fun _ => ?_) (fun _ => ?_) | refine an.mk _ (az _ _ (by omega)) ?_ | refine an.mk _ (a1 _ _ (by omega)) ?_ | refine an.mk _ (cp _ _ _ (by first | with_reducible exact ae _ | with_reducible exact ab _ | exact ae _ | exact ab _ | rfl) (by first | omega | (simp only [List.length_set]; omega))) ?_ | refine an.mk _ rfl ?_ | refine And.intro (fun _ => ?_) ?_ | (refine TkE.fL ?_; (conv => whnf); fail_if_success (show ag _ _)) | refine TkE.mk _ rfl rfl ?_ | refine Res.mk ?_ | refine a7.mk (by repeat first | exact True.intro | refine And.intro (by kernel_rfl) ?_) ?_ | refine DsE.mk (a8 _) rfl ?_ | refine DsE.mk [] rfl ?_ | refine ai.cu _ _ ?_ | ((with_reducible refine EqE.idT ?_); first | ((conv => arg 1; simp only [ak, List.toList_toArray, ao, af, aa, Int.toNat_natCast, Int.toNat_zero, Int.toNat_one, b3, b4, List.drop_zero, Nat.sub_zero, List.cons_append, List.nil_append]); refine EqE.mk _ rfl ?_) | refine EqE.mk _ rfl ?_) | ((with_reducible refine EqE.idP ?_); first | ((conv => arg 1; simp only [ak, List.toList_toArray, bx, bz]); refine EqE.mk _ rfl ?_) | refine EqE.mk _ rfl ?_) | ((with_reducible refine EqE.idN ?_); first | ((conv => arg 1; simp only [ak, List.toList_toArray, aa, ba, Int.toNat_natCast, Int.toNat_zero, Int.toNat_one, List.length_cons, List.length_nil, Nat.zero_add]); refine EqE.mk _ rfl ?_)) | ((with_reducible refine EqE.idW ?_); first | with_reducible refine EqE.mk _ (ar _) ?_ | with_reducible refine EqE.mk _ (dy _ _ (by omega)) ?_ | with_reducible refine EqE.mk _ (b6 _ (by omega)) ?_ | with_reducible refine EqE.mk _ (eh _ _ (by omega) (by omega)) ?_ | with_reducible refine EqE.mk _ (eg _ _ (by omega)) ?_ | with_reducible refine EqE.mk _ (ei _ _ (by omega) (by omega)) ?_ | with_reducible refine EqE.mk _ (c8 _ (by omega)) ?_ | with_reducible refine EqE.mk _ (di _ (by omega)) ?_ | with_reducible refine EqE.mk _ (bd _ (by omega)) ?_ | with_reducible refine EqE.mk _ (ek _ _ (by omega) (by omega)) ?_ | with_reducible refine EqE.mk _ (gl _ _ (by omega) (by omega)) ?_ | refine EqE.mk _ (dx _ 32 (by omega)) ?_ | with_reducible refine EqE.mk _ (cl _) ?_ | with_reducible refine EqE.mk _ (gu _) ?_ | with_reducible refine EqE.mk _ (ed _ (by omega)) ?_ | with_reducible refine EqE.mk _ (a6 _ (by omega)) ?_ | with_reducible refine EqE.mk _ (aq _ (by omega)) ?_ | with_reducible refine EqE.mk _ (n_iadd _ _ (by omega)) ?_ | with_reducible refine EqE.mk _ (wrap_u64 (by omega) (by omega)) ?_ | with_reducible refine EqE.mk _ (wrap_u32 _) ?_ | with_reducible refine EqE.mk _ (ah (by omega) (by omega)) ?_ | refine EqE.mk _ rfl ?_) | ((with_reducible refine EqE.idF ?_); first | with_reducible refine EqE.mk _ (cf _) ?_ | with_reducible refine EqE.mk _ (cx _ _ (by omega)) ?_ | with_reducible refine EqE.mk _ (bq _ _ (by omega)) ?_ | with_reducible refine EqE.mk _ (bg _) ?_ | refine EqE.mk _ (aj _ 4294967296 _ _ rfl) ?_ | refine EqE.mk _ (aj _ 65536 _ _ rfl) ?_ | refine EqE.mk _ (aj _ 256 _ _ rfl) ?_ | refine EqE.mk _ (aj _ 134217728 _ _ rfl) ?_ | refine EqE.mk _ (aj _ 2 _ _ rfl) ?_ | refine EqE.mk _ (aj _ 16 _ _ rfl) ?_ | refine EqE.mk _ rfl ?_) | ((with_reducible refine EqE.idM ?_); first | refine EqE.mk _ (bn _ 32) ?_ | refine EqE.mk _ (bn _ _) ?_ | refine EqE.mk _ rfl ?_) | ((with_reducible refine EqE.idI ?_); first | refine EqE.mk _ (gq _) ?_ | with_reducible refine EqE.mk _ (b8 _ _) ?_ | refine EqE.mk _ (max_eq _ _) ?_ | refine EqE.mk _ (min_eq _ _) ?_) | ((with_reducible refine EqE.idS ?_); first | refine EqE.mk _ (bl _ _ _ _ (by first | with_reducible exact ae _ | with_reducible exact ab _ | exact ae _ | exact ab _ | rfl) (by first | omega | (simp only [List.length_set]; omega)) (by omega)) ?_ | refine EqE.mk _ (dh _ _ _ _ (by first | with_reducible exact ae _ | with_reducible exact ab _ | exact ae _ | exact ab _ | rfl) (by omega) (by omega) (by omega)) ?_ | (refine EqE.fP ?_; (conv => whnf); fail_if_success (show ag _ _)) | refine EqE.mk _ rfl ?_) | ((with_reducible refine EqE.idA ?_); first | refine EqE.mk _ (cc _) ?_ | refine EqE.mk _ (dd _ _) ?_ | refine EqE.mk _ rfl ?_) | ((with_reducible refine EqE.idR ?_); first | refine EqE.mk _ (b7 _) ?_ | refine EqE.mk _ rfl ?_) | ((with_reducible refine EqE.idL ?_); first | refine EqE.mk _ (av _ _ _ _ (by omega) (by omega) rfl) ?_ | refine EqE.mk _ (bh _ _ (by omega)) ?_ | refine EqE.mk _ (bo _ _ _ (by omega) (by omega) (by omega)) ?_ | refine EqE.mk _ rfl ?_) | refine EqE.mk _ rfl ?_ | refine Cd.ro ?_ | refine Cd.dc ?_ | refine Cd.ob ?_ | refine Cd.ol ?_ | refine Cd.mk ⟨rfl, rfl⟩ ?_ | refine Cd.mk (bc _) ?_ | refine Cd.om ?_ | refine Cd.mk ?_ ?_ | refine DsE.mk [_] rfl ?_ | refine DsE.mk [_, _, _] rfl ?_)
  · rename_i h
    show D.str _ = D.str _
    rw [if_pos (of_decide_eq_true h), ak]
  · rename_i h h2
    show D.str _ = D.str _
    rw [if_neg (of_decide_eq_false h), if_pos h2]
  · rename_i h h2
    show D.str _ = D.str _
    rw [if_neg (of_decide_eq_false h), h2]; rfl
def qm : Nat → Code → Code
 | n + 1, .seq _ b => qm n b
 | _, c => c
theorem agl (neg : Bool) (m : List UInt32) : (if (dg 16 (nv m)).map ch = [] then [48] else if neg = true then 45 :: (dg 16 (nv m)).map ch else (dg 16 (nv m)).map ch) = txt 16 neg (nv m) := by
 unfold txt
 by_cases h : nv m = 0
 ·rw [h, if_pos (by rw [en]; rfl), if_pos rfl]
 ·rw [if_neg h, if_neg (by simp [o7 (show 2 ≤ 16 by omega), h])]
  cases neg <;> simp
def xi (n : Nat) (s : ByteArray) (w : World) : Exit → Act → World → Prop
 | .ret, a', w' => a'.defers = [] ∧ a'.tmps.size = n ∧ a'.tmps.getD 2 undef = .string s ∧ Below w.heap.size w w'
 | _, _, _ => False
noncomputable def aes : Code := qm 2 ((Tryz.f19.body).getD .skip)
theorem sv {fresh : Bool} {f : FuncId} {args : List D} {vs : List Value} {r : D} {rv : Value} (h : Sim Tryz.prog G0 fresh f args r) (ha : ∀ S w, DRs S w args vs) (hr : ∀ S w v, DR S w r v → v = rv) {S : Imm} {w : World} (hS : ∀ k o, S k o → k < w.heap.size) (hG : ∀ g, DRL S w g 0 (G0 g)) :
  Calls Tryz.prog f vs.toArray w fun e w' => e = .returned rv ∧ Below w.heap.size w w' := by
 refine (h.run S w vs hS hG (ha S w)).mono ?_
 rintro e w' ⟨v, rfl, hb, S', _, hv⟩
 exact ⟨by rw [hr _ _ _ hv], hb⟩
theorem qg {S : Imm} {w w' : World} {B : Nat} (hb : Below B w w') (hS : ∀ k o, S k o → k < B) (hG : ∀ g, DRL S w g 0 (G0 g)) : ∀ g, DRL S w' g 0 (G0 g) :=
 fun g => (hG g).mono (fun _ _ h => h) fun b o h => cell_of_heap (hb.block b (hS b o h))
theorem nw {p : Prop} (h : p) : Hid p := h
theorem s0 {T e : TypeId} {B b : Nat} {p : Value} {bs : List Value} {w w' : World} (h : Lib.BuilderAt T e B b p bs w) (hb : Below w.heap.size w w') : Lib.BuilderAt T e B b p bs w' := by
 obtain ⟨hB, v, hbk, hown, hne⟩ := h
 have old : ∀ k o, w.heap[k]? = some o → w'.heap[k]? = some o := fun k o hk => (hb.block k (lt_of_heap hk)).trans hk
 refine ⟨hB, v, old _ _ hbk, ⟨hown.1, hown.2.imp id ?_⟩, hne⟩
 rintro ⟨g, cap, cur, h1, h2, h3, h4⟩
 exact ⟨g, cap, cur, h1, h2, old _ _ h3, h4⟩
theorem afk {T e : TypeId} {B b : Nat} {bs : List Value} {w w' : World} (h : Lib.IsBuilder T e B b bs w) (hb : Below w.heap.size w w') : Lib.IsBuilder T e B b bs w' :=
 h.imp (fun h => s0 h hb) (fun h => s0 h hb)
def zr (m : List UInt32) (k : Nat) : List UInt8 := (grp 16 8 ((m.reverse.take k).map UInt32.toNat)).map ch
theorem aba (m : List UInt32) (k : Nat) : (zr m k).length ≤ 8 * m.length := by
 have h := (ac1 (b := 16) (k := 8) (by omega) ((m.reverse.take k).map UInt32.toNat) (by
  intro v hv; rw [List.mem_map] at hv; obtain ⟨x, _, rfl⟩ := hv; exact x.toNat_lt)).2
 simp only [zr, List.length_map, h, List.length_take, List.length_reverse]
 omega
theorem aft {m : List UInt32} {k j : Nat} (hj : j + 1 + k = m.length) : zr m (k + 1) = zr m k ++ (pad 8 (dg 16 (m.getD j 0).toNat)).map ch := by
 have : m.reverse.take (k + 1) = m.reverse.take k ++ [m.getD j 0] := by
  rw [List.take_add_one, List.getElem?_reverse (by omega)]
  rw [show m.length - 1 - k = j by omega, List.getD_eq_getElem?_getD, List.getElem?_eq_getElem (by omega)]
  rfl
 simp only [zr, this, grp, List.map_append, List.flatMap_append, List.map_cons, List.map_nil, List.flatMap_cons, List.flatMap_nil, List.append_nil]
theorem ahl (m : List UInt32) : (zr m m.length).dropWhile (· == 48) = (dg 16 (nv m)).map ch := by
  rw [zr, List.take_of_length_le (by simp)]
  exact agm m
set_option maxRecDepth 100000 in
set_option maxHeartbeats 1000000 in
theorem ahm (u0 u2 u4 u5 u6 u7 u8 u9 u10 u11 u12 u13 u14 u15 u16 u17 u18 u19 u20 u21 u22 u23 u24 u25 : Value) (neg : Bool) (m : List UInt32) (k1 c : Nat) (sa : Option Addr) (w : World) (S : Imm)
    (hS : ∀ k o, S k o → k < w.heap.size) (hG : ∀ g, DRL S w g 0 (G0 g)) (hk : k1 < w.heap.size ∧ w.cell? ⟨k1, 0, none⟩ = some (.bool neg)) (hc : m.length ≤ c) (hm : m.length < 1000000)
    (hsa : m.length = 0 ∨ ∃ bk o, sa = some ⟨bk, o, none⟩ ∧ bk < w.heap.size ∧ ∀ j, j < m.length → w.cell? ⟨bk, o + j, none⟩ = some (.int .u32 ((m.getD j 0).toNat : Int))) :
    aes.wp Tryz.prog (xi 26 (bst (txt 16 neg (nv m))) w)
      ⟨#[u0, .pointer (some ⟨k1, 0, none⟩), u2, .slice sa m.length c, u4, u5, u6, u7, u8, u9, u10, u11, u12, u13, u14, u15, u16, u17, u18, u19, u20, u21, u22, u23, u24, u25], []⟩ w := by
  unfold aes
  show Code.wp _ (qm 2 (Code.seq _ _)) _ _ _
  simp only [qm]
  go_wp2
  go_loopw [5] (fun i wr => ∃ k : Nat, k ≤ m.length ∧ i = .int .i64 ((m.length : Int) - 1 - k) ∧ Hid (Lib.IsBuilder 95 5 w.heap.size w.heap.size (Lib.byteCells (zr m k)) wr) ∧ Hid (Below w.heap.size w wr)) (fun i _ => (intOf i + 1).toNat)
  case atStart => exact ⟨0, Nat.zero_le _, by simp, nw (Lib.fresh_isBuilder _ _ _), nw ((Below.refl _ _).alloc (Nat.le_refl _) _)⟩
  case round =>
    obtain ⟨k, hk', rfl, HB, HW⟩ := hrel
    by_cases hkn : k < m.length
    · obtain ⟨bk, o, rfl, hbk, hcells⟩ : ∃ bk o, sa = some ⟨bk, o, none⟩ ∧ bk < w.heap.size ∧ ∀ j, j < m.length → w.cell? ⟨bk, o + j, none⟩ = some (.int .u32 ((m.getD j 0).toNat : Int)) := by
        rcases hsa with h | h
        · omega
        · exact h
      obtain ⟨j, hj⟩ : ∃ j : Nat, (m.length : Int) - 1 - k = j := ⟨m.length - 1 - k, by omega⟩
      have hjlt : j < m.length := by omega
      have hcj : wr.cell? ⟨bk, o + j, none⟩ = some (.int .u32 ((m.getD j 0).toNat : Int)) := (HW.out.cell (p := ⟨bk, o + j, none⟩) hbk).trans (hcells j hjlt)
      rw [hj]
      have hx : (m.getD j 0).toNat < 16 ^ 8 := (m.getD j 0).toNat_lt
      have hnext := aft (m := m) (k := k) (j := j) (by omega)
      have hlen := aba m k
      generalize m.getD j 0 = x at hx hnext hcj
      go_wp2_with fail
      refine (sv (vs := [.int .u32 (x.toNat : Int), .int .i64 16, .int .i64 8]) (wq (b := 16) (k := 8) (v := x.toNat) (by omega) hx) (fun S w => by simp [DRs, DR]) (fun S w v h => by simpa [DR] using h) (fun k o h => Nat.lt_of_lt_of_le (hS k o h) HW.out.size) (qg HW.out hS hG)).mono ?_
      rintro e w1 ⟨rfl, hb1⟩
      have HB1 := nw (afk HB.out hb1)
      have HW1 := nw (HW.out.trans (hb1.mono HW.out.size))
      clear HB hb1
      go_wp2_with fail
      refine (Tryz.Builder_WriteString w.heap.size w.heap.size _ _ w1 HB1.out (by rw [Lib.byteCells_length, aa, List.length_map, aad (od (by omega) 8 _ hx)]; omega) HW1.out.size).mono ?_
      rintro e w2 ⟨rfl, hB2, hb2⟩
      have HB2 := nw (Or.inr hB2 : Lib.IsBuilder _ _ _ _ _ w2)
      have HW2 := nw (HW1.out.trans hb2)
      clear hB2 hb2
      go_wp2
      refine ⟨⟨k + 1, by omega, by congr 1; omega, nw ?_, HW2⟩, by simp only [intOf]; omega⟩
      have h2 := HB2.out
      rw [Lib.strCells_eq, n7, ← Lib.byteCells_append, ← hnext] at h2
      exact h2
    · have hkm : k = m.length := by omega
      subst hkm
      have hcb : wr.cell? ⟨k1, 0, none⟩ = some (.bool neg) := (HW.out.cell (p := ⟨k1, 0, none⟩) hk.1).trans hk.2
      go_wp2_with fail
      have h8 := ahl m
      have hlen := aba m m.length
      generalize zr m m.length = hw at h8 hlen HB
      have mixed : Tryz.prog.follows .mixedOrders = true := by kernel_rfl
      have T1 := nw (Tryz.Builder_String_any w.heap.size w.heap.size hw wr.drew HB HW.out.size)
      have hcb' : wr.drew.cell? ⟨k1, 0, none⟩ = some (.bool neg) := hcb
      have t2 : ∀ w5, Below w.heap.size w w5 → Calls Tryz.prog 62 #[.bool neg, .string ⟨hw.toArray⟩] w5 fun e w' => e = .returned (.string (bst (txt 16 neg (nv m)))) ∧ Below w5.heap.size w5 w' := by
        intro w5 hb
        have e : (if hw.dropWhile (· == 48) = [] then [48] else if neg then 45 :: hw.dropWhile (· == 48) else hw.dropWhile (· == 48)) = txt 16 neg (nv m) := by
          rw [h8]
          exact (agl neg m)
        refine (sv (vs := [.bool neg, .string ⟨hw.toArray⟩]) (xe neg hw (by omega)) (fun S w => by simp [DRs, DR, n6]) (fun S w v h => by simpa [DR, e] using h) (fun k o h => Nat.lt_of_lt_of_le (hS k o h) hb.size) (qg (B := w.heap.size) hb hS hG))
      have T2 := nw t2
      clear t2
      go_region_with_o (first
        | (refine T1.out.mono ?_
           rintro e w5 ⟨rfl, hb5⟩
           have hcb5 : w5.cell? ⟨k1, 0, none⟩ = some (.bool neg) := (hb5.cell (p := ⟨k1, 0, none⟩) hk.1).trans hcb'
           have HW5 := nw ((HW.out.drew).trans hb5))
        | (refine (T2.out _ HW5.out).mono ?_
           rintro e w6 ⟨rfl, hb6⟩))
      all_goals (
        go_wp2
        exact ⟨rfl, rfl, rfl, HW5.out.trans (hb6.mono HW5.out.size)⟩)
end Go.Ev.Ar

-- STR
namespace Go.Ev.Ar
open Go Go.Ev Go.Proofs Go.RowKit
theorem amt {ts : Array Value} (h : ts.size = 26) : ts = #[ts.getD 0 undef, ts.getD 1 undef, ts.getD 2 undef, ts.getD 3 undef, ts.getD 4 undef, ts.getD 5 undef, ts.getD 6 undef, ts.getD 7 undef, ts.getD 8 undef, ts.getD 9 undef, ts.getD 10 undef, ts.getD 11 undef, ts.getD 12 undef, ts.getD 13 undef, ts.getD 14 undef, ts.getD 15 undef, ts.getD 16 undef, ts.getD 17 undef, ts.getD 18 undef, ts.getD 19 undef, ts.getD 20 undef, ts.getD 21 undef, ts.getD 22 undef, ts.getD 23 undef, ts.getD 24 undef, ts.getD 25 undef] := by
 obtain ⟨l⟩ := ts
 have h2 : l.length = 26 := h
 match l, h2 with
 | [x0, x1, x2, x3, x4, x5, x6, x7, x8, x9, x10, x11, x12, x13, x14, x15, x16, x17, x18, x19, x20, x21, x22, x23, x24, x25], _ => rfl
theorem adg {S : Imm} {w : World} {m : List UInt32} {v : Value} (h : DR S w (sl m) v) (hS : ∀ k o, S k o → k < w.heap.size) : ∃ sa c, v = .slice sa m.length c ∧ m.length ≤ c ∧
  (m.length = 0 ∨ ∃ bk o, sa = some ⟨bk, o, none⟩ ∧ bk < w.heap.size ∧ ∀ j, j < m.length → w.cell? ⟨bk, o + j, none⟩ = some (.int .u32 ((m.getD j 0).toNat : Int))) := by
 unfold sl at h
 simp only [DR] at h
 obtain ⟨a, c, rfl, hc, h⟩ := h
 refine ⟨a, c, rfl, hc, ?_⟩
 rcases h with h | ⟨b, o, rfl, h⟩
 ·left
  have := congrArg List.length h
  simpa [a8] using this
 ·by_cases h0 : m.length = 0
  ·exact .inl h0
  ·right
   have hj : ∀ j, j < m.length → S b (o + j) ∧ w.cell? ⟨b, o + j, none⟩ = some (.int .u32 ((m.getD j 0).toNat : Int)) := by
    intro j hj
    obtain ⟨h1, u, h2, h3⟩ := j8 h (j := j) (x := .int .u32 ((m.getD j 0).toNat : Int)) (by simp [a8, hj])
    simp only [DR] at h3
    exact ⟨h1, by rw [h2, h3]⟩
   exact ⟨b, o, rfl, hS _ _ (hj 0 (by omega)).1, fun j h => (hj j h).2⟩
theorem aa9 {c : Code} {σ : St} {n : Nat} {s : ByteArray} {rs : List ResultVar} (hrs : rs = [.tmp 2]) (hn : σ.n = n) (hsm : n ≤ 1000000)
  (h : ∀ w0 M S0 a w β S, Rel G0 w0 M S0 σ a w β S → c.wp Tryz.prog (xi n s w) a w) : aeg Tryz.prog G0 c (xa tab rs (.str s)) σ := by
 refine ⟨fun w0 M S0 a w β S hr => wp_mono (h w0 M S0 a w β S hr) ?_⟩
 rintro e a' w' hp
 cases e <;> try exact hp.elim
 obtain ⟨h1, h2, h3, h4⟩ := hp
 refine ⟨⟨n, [(2, .d (.str s))], []⟩, _, S, ?_, hr.fresh h4 h1 h2 hsm ?_, by simp [hn]⟩
 ·subst hrs
  show pz _ _ _ _
  simp only [pz, St.get, lk, if_true, Option.getD_some, iq, fk]
  exact ⟨rfl⟩
 ·intro t x hx
  simp only [lk] at hx
  split at hx
  ·rename_i e; subst e; cases hx
   simp only [AR, DR]; exact h3
  ·cases hx
theorem aet {x : D} {n : Int} (hx : ZR x n) (hl : (ofN n.natAbs).length < 100000) : Sim Tryz.prog G0 true 19 [x] (.str (bst (txt 16 (gy n) n.natAbs))) := by
 have s1 := pq hx
 obtain ⟨b, l, hl0⟩ := hx
 have e : txt 16 (gy (zv b l)) (zv b l).natAbs = txt 16 b (nv (ofN (zv b l).natAbs)) := by
  rw [bj, aan, mn]
  by_cases h : nv l = 0
  ·rw [h]; rfl
  ·rw [show (b && decide (0 < nv l)) = b by simp; omega]
 rw [e]
 refine anf 2 ax Tryz.func19 rfl ?_ (by kernel_rfl) rfl ⟨Nat.le_of_ble_eq_true rfl, Nat.le_of_ble_eq_true rfl⟩
 repeat' ((conv => whnf); first | refine aw.data ?_ | refine cE s1 ?_ | refine rgE ?_ | refine Cd.mk rfl ?_ | refine Br.t ?_ | refine Br.f ?_ | with_reducible refine Br.eqd ?_ | with_reducible refine Br.eqb ?_ | with_reducible refine Br.dec (fun _ => ?_) (fun _ => ?_) | with_reducible refine Br.br (fun _ => ?_) (fun _ => ?_) | refine Br.mk (fun _ => ?_) (fun _ => ?_) | refine an.mk _ rfl ?_ | refine And.intro (fun _ => ?_) ?_ | (refine TkE.fL ?_; (conv => whnf); fail_if_success (show ag _ _)) | refine TkE.mk _ rfl rfl ?_ | refine Res.mk ?_ | refine a7.mk (by repeat first | exact True.intro | refine And.intro (by kernel_rfl) ?_) ?_ | refine DsE.mk [] rfl ?_ | refine ai.cu _ _ ?_ | ((with_reducible refine EqE.idT ?_); first | ((conv => arg 1; simp only [ak, List.toList_toArray, ao, af, aa, Int.toNat_natCast, Int.toNat_zero, Int.toNat_one, b3, b4, List.drop_zero, Nat.sub_zero, List.cons_append, List.nil_append]); refine EqE.mk _ rfl ?_) | refine EqE.mk _ rfl ?_) | ((with_reducible refine EqE.idP ?_); first | ((conv => arg 1; simp only [ak, List.toList_toArray, bx, bz]); refine EqE.mk _ rfl ?_) | refine EqE.mk _ rfl ?_) | ((with_reducible refine EqE.idN ?_); first | ((conv => arg 1; simp only [ak, List.toList_toArray, aa, ba, Int.toNat_natCast, Int.toNat_zero, Int.toNat_one, List.length_cons, List.length_nil, Nat.zero_add]); refine EqE.mk _ rfl ?_)) | ((with_reducible refine EqE.idW ?_); first | with_reducible refine EqE.mk _ (a6 _ (by omega)) ?_ | with_reducible refine EqE.mk _ (aq _ (by omega)) ?_ | refine EqE.mk _ (ah (by omega) (by omega)) ?_ | refine EqE.mk _ rfl ?_) | ((with_reducible refine EqE.idM ?_); refine EqE.mk _ rfl ?_) | ((with_reducible refine EqE.idI ?_); first | refine EqE.mk _ (max_eq _ _) ?_ | refine EqE.mk _ (min_eq _ _) ?_) | ((with_reducible refine EqE.idS ?_); first | (refine EqE.fP ?_; (conv => whnf); fail_if_success (show ag _ _)) | refine EqE.mk _ rfl ?_) | ((with_reducible refine EqE.idL ?_); first | refine EqE.mk _ (av _ _ _ _ (by omega) (by omega) rfl) ?_ | refine EqE.mk _ rfl ?_) | refine EqE.mk _ rfl ?_ | refine Cd.ro ?_ | refine Cd.dc ?_ | refine Cd.ob ?_ | refine Cd.ol ?_ | refine Cd.mk ⟨rfl, rfl⟩ ?_ | refine Cd.os ?_ | refine Cd.mk ?_ ?_ | refine DsE.mk [_] rfl ?_ | refine DsE.mk [_, _, _] rfl ?_)
 refine aa9 (n := 26) rfl rfl (by omega) fun w0 M S0 a w β S hr => ?_
 have g1 : AR β S w (.ptr 1 0) (a.tmps.getD 1 undef) := hr.get 1
 have g3 : AR β S w (.d (sl (ofN (zv b l).natAbs))) (a.tmps.getD 3 undef) := hr.get 3
 simp only [AR] at g1 g3
 obtain ⟨k1, hk1, hv1⟩ := g1
 obtain ⟨sa, c, hv3, hc, hsa⟩ := adg g3 hr.imm
 obtain ⟨C, T, hC, _, hcc⟩ := hr.rd 1 k1 false _ hk1 rfl
 obtain ⟨u, hu, hR⟩ := hcc 0 (.d (.bool b)) rfl
 simp only [AR, DR] at hR
 subst hR
 have hd := hr.defers
 have hs : a.tmps.size = 26 := hr.size
 have hS := hr.imm
 have hG := hr.glob
 clear hr
 obtain ⟨ts, df⟩ := a
 simp only at hd hs hv1 hv3
 subst hd
 rw [amt hs, hv1, hv3]
 exact ahm _ _ _ _ _ _ _ _ _ _ _ _ _ _ _ _ _ _ _ _ _ _ _ _ b (ofN (zv b l).natAbs) k1 c sa w S hS hG ⟨lt_of_heap hC, by rw [dp hC]; exact hu⟩ hc (by omega) hsa
end Go.Ev.Ar

-- STR
namespace Go.Ev.Ar
open Go Go.Ev Go.Proofs Go.RowKit
def sg (neg : Bool) (l : List UInt8) : List UInt8 := if l.dropWhile (· == 48) = [] then [48] else if neg then 45 :: l.dropWhile (· == 48) else l.dropWhile (· == 48)
def gW (gs : List (List UInt8)) (k : Nat) : List UInt8 := (gs.reverse.take k).flatten
theorem ahf (gs : List (List UInt8)) (k : Nat) : (gW gs k).length ≤ gs.flatten.length := by
 have h1 : gs.reverse.flatten.length = gs.flatten.length := by simp [List.length_flatten, List.sum_reverse]
 have h2 : gs.reverse.flatten = gW gs k ++ (gs.reverse.drop k).flatten := by rw [gW, ← List.flatten_append, List.take_append_drop]
 rw [← h1, h2, List.length_append]; omega
theorem ajt {gs : List (List UInt8)} {k j : Nat} (hj : j + 1 + k = gs.length) : gW gs (k + 1) = gW gs k ++ gs.getD j [] := by
 have : gs.reverse.take (k + 1) = gs.reverse.take k ++ [gs.getD j []] := by
  rw [List.take_add_one, List.getElem?_reverse (by omega)]
  rw [show gs.length - 1 - k = j by omega, List.getD_eq_getElem?_getD, List.getElem?_eq_getElem (by omega)]
  rfl
 simp [gW, this]
noncomputable def ab6 : Code := qm 4 ((Tryz.f17.body).getD .skip)
set_option maxRecDepth 100000 in
set_option maxHeartbeats 1000000 in
theorem agj (u0 u2 u3 u5 u6 u7 u8 u9 u10 u11 u12 u13 u14 u15 u16 u17 u18 u19 u20 u21 u22 u23 u24 u25 u26 u27 u28 u29 u30 u31 u32 u33 u34 u35 u36 u37 u38 u39 u40 u41 u42 u43 u44 u45 u46 u47 u48 u49 u50 u51 : Value) (neg : Bool) (gs : List (List UInt8)) (k1 c : Nat) (sa : Option Addr) (w : World) (S : Imm)
    (hS : ∀ k o, S k o → k < w.heap.size) (hG : ∀ g, DRL S w g 0 (G0 g)) (hk : k1 < w.heap.size ∧ w.cell? ⟨k1, 0, none⟩ = some (.bool neg)) (hc : gs.length ≤ c) (hm : gs.length < 1000000) (hml : gs.flatten.length < 1000000000)
    (hsa : gs.length = 0 ∨ ∃ bk o, sa = some ⟨bk, o, none⟩ ∧ bk < w.heap.size ∧ ∀ j, j < gs.length → w.cell? ⟨bk, o + j, none⟩ = some (.string (bst (gs.getD j [])))) :
    ab6.wp Tryz.prog (xi 52 (bst (sg neg gs.reverse.flatten)) w)
      ⟨#[u0, .pointer (some ⟨k1, 0, none⟩), u2, u3, .slice sa gs.length c, u5, u6, u7, u8, u9, u10, u11, u12, u13, u14, u15, u16, u17, u18, u19, u20, u21, u22, u23, u24, u25, u26, u27, u28, u29, u30, u31, u32, u33, u34, u35, u36, u37, u38, u39, u40, u41, u42, u43, u44, u45, u46, u47, u48, u49, u50, u51], []⟩ w := by
  unfold ab6
  show Code.wp _ (qm 4 (Code.seq _ _)) _ _ _
  simp only [qm]
  go_wp2
  go_loopw [10] (fun i wr => ∃ k : Nat, k ≤ gs.length ∧ i = .int .i64 ((gs.length : Int) - 1 - k) ∧ Hid (Lib.IsBuilder 95 5 w.heap.size w.heap.size (Lib.byteCells (gW gs k)) wr) ∧ Hid (Below w.heap.size w wr)) (fun i _ => (intOf i + 1).toNat)
  case atStart => exact ⟨0, Nat.zero_le _, by simp, nw (Lib.fresh_isBuilder _ _ _), nw ((Below.refl _ _).alloc (Nat.le_refl _) _)⟩
  case round =>
    obtain ⟨k, hk', rfl, HB, HW⟩ := hrel
    by_cases hkn : k < gs.length
    · obtain ⟨bk, o, rfl, hbk, hcells⟩ : ∃ bk o, sa = some ⟨bk, o, none⟩ ∧ bk < w.heap.size ∧ ∀ j, j < gs.length → w.cell? ⟨bk, o + j, none⟩ = some (.string (bst (gs.getD j []))) := by
        rcases hsa with h | h
        · omega
        · exact h
      obtain ⟨j, hj⟩ : ∃ j : Nat, (gs.length : Int) - 1 - k = j := ⟨gs.length - 1 - k, by omega⟩
      have hjlt : j < gs.length := by omega
      have hcj : wr.cell? ⟨bk, o + j, none⟩ = some (.string (bst (gs.getD j []))) := (HW.out.cell (p := ⟨bk, o + j, none⟩) hbk).trans (hcells j hjlt)
      rw [hj]
      have hnext := ajt (gs := gs) (k := k) (j := j) (by omega)
      have hlen := ahf gs (k + 1)
      rw [hnext, List.length_append] at hlen
      generalize gs.getD j [] = x at hnext hcj hlen
      go_wp2_with fail
      refine (Tryz.Builder_WriteString w.heap.size w.heap.size _ _ wr HB.out (by rw [Lib.byteCells_length, aa]; omega) HW.out.size).mono ?_
      rintro e w2 ⟨rfl, hB2, hb2⟩
      have HB2 := nw (Or.inr hB2 : Lib.IsBuilder _ _ _ _ _ w2)
      have HW2 := nw (HW.out.trans hb2)
      clear hB2 hb2
      go_wp2
      refine ⟨⟨k + 1, by omega, by congr 1; omega, nw ?_, HW2⟩, by simp only [intOf]; omega⟩
      have h2 := HB2.out
      rw [Lib.strCells_eq, n7, ← Lib.byteCells_append, ← hnext] at h2
      exact h2
    · have hkm : k = gs.length := by omega
      subst hkm
      have hcb : wr.cell? ⟨k1, 0, none⟩ = some (.bool neg) := (HW.out.cell (p := ⟨k1, 0, none⟩) hk.1).trans hk.2
      go_wp2_with fail
      have hall : gW gs gs.length = gs.reverse.flatten := by rw [gW, List.take_of_length_le (by simp)]
      have hlen := ahf gs gs.length
      rw [hall] at HB hlen
      generalize hgw : gs.reverse.flatten = hw at hlen HB
      have mixed : Tryz.prog.follows .mixedOrders = true := by kernel_rfl
      have T1 := nw (Tryz.Builder_String_any w.heap.size w.heap.size hw wr.drew HB HW.out.size)
      have hcb' : wr.drew.cell? ⟨k1, 0, none⟩ = some (.bool neg) := hcb
      have t2 : ∀ w5, Below w.heap.size w w5 → Calls Tryz.prog 62 #[.bool neg, .string ⟨hw.toArray⟩] w5 fun e w' => e = .returned (.string (bst (sg neg hw))) ∧ Below w5.heap.size w5 w' := by
        intro w5 hb
        refine (sv (vs := [.bool neg, .string ⟨hw.toArray⟩]) (xe neg hw (by omega)) (fun S w => by simp [DRs, DR, n6]) (fun S w v h => by simp only [DR] at h; exact h) (fun k o h => Nat.lt_of_lt_of_le (hS k o h) hb.size) (qg (B := w.heap.size) hb hS hG))
      have T2 := nw t2
      clear t2
      go_region_with_o (first
        | (refine T1.out.mono ?_
           rintro e w5 ⟨rfl, hb5⟩
           have hcb5 : w5.cell? ⟨k1, 0, none⟩ = some (.bool neg) := (hb5.cell (p := ⟨k1, 0, none⟩) hk.1).trans hcb'
           have HW5 := nw ((HW.out.drew).trans hb5))
        | (refine (T2.out _ HW5.out).mono ?_
           rintro e w6 ⟨rfl, hb6⟩))
      all_goals (
        go_wp2
        exact ⟨rfl, rfl, hgw ▸ rfl, HW5.out.trans (hb6.mono HW5.out.size)⟩)
theorem amu {ts : Array Value} (h : ts.size = 52) : ts = #[ts.getD 0 undef, ts.getD 1 undef, ts.getD 2 undef, ts.getD 3 undef, ts.getD 4 undef, ts.getD 5 undef, ts.getD 6 undef, ts.getD 7 undef, ts.getD 8 undef, ts.getD 9 undef, ts.getD 10 undef, ts.getD 11 undef, ts.getD 12 undef, ts.getD 13 undef, ts.getD 14 undef, ts.getD 15 undef, ts.getD 16 undef, ts.getD 17 undef, ts.getD 18 undef, ts.getD 19 undef, ts.getD 20 undef, ts.getD 21 undef, ts.getD 22 undef, ts.getD 23 undef, ts.getD 24 undef, ts.getD 25 undef, ts.getD 26 undef, ts.getD 27 undef, ts.getD 28 undef, ts.getD 29 undef, ts.getD 30 undef, ts.getD 31 undef, ts.getD 32 undef, ts.getD 33 undef, ts.getD 34 undef, ts.getD 35 undef, ts.getD 36 undef, ts.getD 37 undef, ts.getD 38 undef, ts.getD 39 undef, ts.getD 40 undef, ts.getD 41 undef, ts.getD 42 undef, ts.getD 43 undef, ts.getD 44 undef, ts.getD 45 undef, ts.getD 46 undef, ts.getD 47 undef, ts.getD 48 undef, ts.getD 49 undef, ts.getD 50 undef, ts.getD 51 undef] := by
 obtain ⟨l⟩ := ts
 have h2 : l.length = 52 := h
 match l, h2 with
 | x0 :: x1 :: x2 :: x3 :: x4 :: x5 :: x6 :: x7 :: x8 :: x9 :: x10 :: x11 :: x12 :: x13 :: x14 :: x15 :: x16 :: x17 :: x18 :: x19 :: x20 :: x21 :: x22 :: x23 :: x24 :: x25 :: x26 :: x27 :: x28 :: x29 :: x30 :: x31 :: x32 :: x33 :: x34 :: x35 :: x36 :: x37 :: x38 :: x39 :: x40 :: x41 :: x42 :: x43 :: x44 :: x45 :: x46 :: x47 :: x48 :: x49 :: x50 :: x51 :: [], _ => rfl
end Go.Ev.Ar

-- STR
namespace Go.Ev.Ar
open Go Go.Ev Go.Proofs Go.RowKit
def sd (x : List UInt8) : List D := [.str (bst x)]
def pg (v : Nat) : List UInt8 := (pad 9 (dg 10 v)).map ch
theorem abq {l : List D} (h : l.all (fun c => (A.d c).one) = true) : ∀ c ∈ l, (A.d c).one = true := List.all_eq_true.1 h
theorem ais (x : List UInt8) : (sd x).length = 1 := rfl
theorem amh (gs : List (List UInt8)) (x : List UInt8) : fa sd gs ++ [D.str (bst x)].map A.d = fa sd (gs ++ [x]) := by
 simp [fa, sd]
theorem alc {k : Nat} (hk : (ofN k).length < 2 ^ 26) : Sim Tryz.prog G0 false 59 [sl (ofN k), sl [1000000000]] (.tup [sl (ofN (k / 1000000000)), sl (ofN (k % 1000000000)), .bool true]) := by
 have e : nv [1000000000] = 1000000000 := rfl
 have h := ah1 (ofN k) [1000000000] hk (by simp) (by omega)
 rw [bj, e] at h; exact h
theorem am3 {k : Nat} (h0 : k ≠ 0) (h : k < 4294967296) : (a8 (ofN k))[0]? = some (.int .u32 ((k : Nat) : Int)) := by
 rw [ln h0]
 show some (D.int .u32 (((UInt32.ofNat k).toNat : Nat) : Int)) = _
 simp only [UInt32.toNat_ofNat']
 rw [Nat.mod_eq_of_lt (by omega)]
theorem ait : ∀ gs : List (List UInt8), gs.flatMap sd = gs.map fun x => D.str (bst x)
 | [] => rfl
 | x :: l => by rw [List.flatMap_cons, ait l]; rfl
theorem agh {S : Imm} {w : World} {gs : List (List UInt8)} {v : Value} (h : DR S w (.slice gs.length (gs.flatMap sd)) v) (hS : ∀ k o, S k o → k < w.heap.size) : ∃ sa c, v = .slice sa gs.length c ∧ gs.length ≤ c ∧
  (gs.length = 0 ∨ ∃ bk o, sa = some ⟨bk, o, none⟩ ∧ bk < w.heap.size ∧ ∀ j, j < gs.length → w.cell? ⟨bk, o + j, none⟩ = some (.string (bst (gs.getD j [])))) := by
 simp only [DR] at h
 obtain ⟨a, c, rfl, hc, h⟩ := h
 refine ⟨a, c, rfl, hc, ?_⟩
 have hm : gs.flatMap sd = gs.map fun x => D.str (bst x) := ait gs
 rw [hm] at h
 rcases h with h | ⟨b, o, rfl, h⟩
 ·left
  have := congrArg List.length h
  simpa using this
 ·by_cases h0 : gs.length = 0
  ·exact .inl h0
  ·right
   have hj : ∀ j, j < gs.length → S b (o + j) ∧ w.cell? ⟨b, o + j, none⟩ = some (.string (bst (gs.getD j []))) := by
    intro j hj
    obtain ⟨h1, u, h2, h3⟩ := j8 h (j := j) (x := .str (bst (gs.getD j []))) (by simp [hj])
    simp only [DR] at h3
    exact ⟨h1, by rw [h2, h3]⟩
   exact ⟨b, o, rfl, hS _ _ (hj 0 (by omega)).1, fun j h => (hj j h).2⟩
theorem aki (vs : List Nat) : ((vs.reverse.map pg).reverse.flatten) = (grp 10 9 vs).map ch := by
 rw [← List.map_reverse, List.reverse_reverse]
 induction vs with
 | nil => rfl
 | cons v l ih =>
  rw [List.map_cons, List.flatten_cons, ih]
  simp [grp, pg]
theorem ami (b : Bool) (N : Nat) : sg b ((grp 10 9 (dg 1000000000 N)).map ch) = txt 10 b N := by
 unfold sg
 rw [aea]
 unfold txt
 by_cases h : N = 0
 ·rw [h, if_pos (by rw [en]; rfl), if_pos rfl]
 ·rw [if_neg h, if_neg (by simp [o7 (show 2 ≤ 10 by omega), h])]
  cases b <;> simp
set_option maxHeartbeats 1000000 in
theorem ab7 {x : D} {n : Int} (hx : ZR x n) (hl : (ofN n.natAbs).length < 1000) : Sim Tryz.prog G0 true 17 [x] (.str (bst (txt 10 (gy n) n.natAbs))) := by
 have s1 := pq hx
 obtain ⟨b, l, hl0⟩ := hx
 have e : txt 10 (gy (zv b l)) (zv b l).natAbs = sg b ((grp 10 9 (dg 1000000000 (zv b l).natAbs)).map ch) := by
  rw [ami, aan, mn]
  by_cases h : nv l = 0
  ·rw [h]; rfl
  ·rw [show (b && decide (0 < nv l)) = b by simp; omega]
 rw [e]
 have hB := yd 1000000000 (by omega) (n := (zv b l).natAbs) (k := 1000) (by omega)
 refine anf 4 ax Tryz.func17 rfl ?_ (by kernel_rfl) rfl ⟨Nat.le_of_ble_eq_true rfl, Nat.le_of_ble_eq_true rfl⟩
 repeat' ((conv => whnf); first | refine aw.data ?_ | refine cE s1 ?_ | refine rgE ?_ | refine Cd.mk rfl ?_ | refine Br.t ?_ | refine Br.f ?_ | with_reducible refine Br.eqd ?_ | with_reducible refine Br.eqb ?_ | with_reducible refine Br.dec (fun _ => ?_) (fun _ => ?_) | with_reducible refine Br.br (fun _ => ?_) (fun _ => ?_) | refine Br.mk (fun _ => ?_) (fun _ => ?_) | refine an.mk _ rfl ?_ | refine And.intro (fun _ => ?_) ?_ | (refine TkE.fL ?_; (conv => whnf); fail_if_success (show ag _ _)) | refine TkE.mk _ rfl rfl ?_ | refine Res.mk ?_ | refine a7.mk (by repeat first | exact True.intro | refine And.intro (by kernel_rfl) ?_) ?_ | refine DsE.mk [] rfl ?_ | refine ai.cu _ _ ?_ | ((with_reducible refine EqE.idT ?_); first | ((conv => arg 1; simp only [ak, List.toList_toArray, ao, af, aa, Int.toNat_natCast, Int.toNat_zero, Int.toNat_one, b3, b4, List.drop_zero, Nat.sub_zero, List.cons_append, List.nil_append]); refine EqE.mk _ rfl ?_) | refine EqE.mk _ rfl ?_) | ((with_reducible refine EqE.idP ?_); first | ((conv => arg 1; simp only [ak, List.toList_toArray, bx, bz]); refine EqE.mk _ rfl ?_) | refine EqE.mk _ rfl ?_) | ((with_reducible refine EqE.idN ?_); first | ((conv => arg 1; simp only [ak, List.toList_toArray, aa, ba, Int.toNat_natCast, Int.toNat_zero, Int.toNat_one, List.length_cons, List.length_nil, Nat.zero_add]); refine EqE.mk _ rfl ?_)) | ((with_reducible refine EqE.idW ?_); first | with_reducible refine EqE.mk _ (a6 _ (by omega)) ?_ | with_reducible refine EqE.mk _ (aq _ (by omega)) ?_ | refine EqE.mk _ (ah (by omega) (by omega)) ?_ | refine EqE.mk _ rfl ?_) | ((with_reducible refine EqE.idM ?_); refine EqE.mk _ rfl ?_) | ((with_reducible refine EqE.idI ?_); first | refine EqE.mk _ (max_eq _ _) ?_ | refine EqE.mk _ (min_eq _ _) ?_) | ((with_reducible refine EqE.idS ?_); first | (refine EqE.fP ?_; (conv => whnf); fail_if_success (show ag _ _)) | refine EqE.mk _ rfl ?_) | ((with_reducible refine EqE.idL ?_); first | refine EqE.mk _ (av _ _ _ _ (by omega) (by omega) rfl) ?_ | refine EqE.mk _ rfl ?_) | refine EqE.mk _ rfl ?_ | refine Cd.ro ?_ | refine Cd.dc ?_ | refine Cd.ob ?_ | refine Cd.ol ?_ | refine Cd.mk ⟨rfl, rfl⟩ ?_ | refine Cd.os ?_ | refine Cd.mk ?_ ?_ | refine DsE.mk [_] rfl ?_ | refine DsE.mk [_, _, _] rfl ?_)
 refine ⟨[(4, 500, 1)], [1, 2, 3, 4], [1, 500], fun m xs h => ∃ (k : Nat) (vs : List Nat), m = k ∧ k ≤ (zv b l).natAbs ∧ dg 1000000000 (zv b l).natAbs = dg 1000000000 k ++ vs ∧
   xs = [.ptr 1 0, .d (.str ⟨#[]⟩), .d (sl (ofN k)), .own 500 0 (vs.reverse.map pg).length 1] ∧ h = [(500, false, fa sd (vs.reverse.map pg)), (1, false, [.d (.bool b), .d (sl l)])],
  ⟨rfl, rfl, ⟨Nat.le_of_ble_eq_true rfl, Nat.le_of_ble_eq_true rfl⟩, _, _, _, ⟨.inl rfl, rfl, rfl, rfl⟩, (zv b l).natAbs, [], rfl, Nat.le_refl _, by simp, rfl, rfl⟩, ?_⟩
 rintro m xs h ⟨_, vs, rfl, hk, hd, rfl, rfl⟩
 have hkl := wm hk hl
 have hvl : vs.length ≤ 32000 := by have := congrArg List.length hd; simp only [List.length_append] at this; omega
 obtain ⟨gs, hgs⟩ : ∃ gs, vs.reverse.map pg = gs := ⟨_, rfl⟩
 have hgl : gs.length ≤ 32000 := by rw [← hgs]; simpa using hvl
 rw [hgs]
 by_cases h0 : m = 0
 ·subst h0
  rw [en, List.nil_append] at hd
  have hz : (ofN 0).length = 0 := da.2 rfl
  have hfl : gs.reverse.flatten = (grp 10 9 (dg 1000000000 (zv b l).natAbs)).map ch := by rw [← hgs, aki, hd]
  have hfl2 : gs.flatten.length < 1000000000 := by
   have h1 : ∀ g ∈ gs, g.length ≤ 9 := by
    intro g hg
    rw [← hgs, List.mem_map] at hg
    obtain ⟨v, hv, rfl⟩ := hg
    rw [List.mem_reverse, ← hd] at hv
    have := aen (b := 1000000000) (by omega) _ v hv
    simp only [pg, List.length_map]
    rw [aad (od (by omega) 9 v this)]; exact Nat.le_refl _
   have h2 : ∀ gs : List (List UInt8), (∀ g ∈ gs, g.length ≤ 9) → gs.flatten.length ≤ 9 * gs.length := by
    intro gs
    induction gs with
    | nil => intro _; simp
    | cons x l ih =>
     intro h
     have h3 := ih fun g hg => h g (List.mem_cons_of_mem _ hg)
     have h4 := h x (List.mem_cons_self ..)
     simp only [List.flatten_cons, List.length_append, List.length_cons]; omega
   have := h2 gs h1; omega
  repeat' ((conv => whnf); first | refine aw.data ?_ | with_reducible refine Br.bf fun _ => ?_ | refine rgE ?_ | refine Cd.mk rfl ?_ | refine Br.t ?_ | refine Br.f ?_ | with_reducible refine Br.eqd ?_ | with_reducible refine Br.eqb ?_ | with_reducible refine Br.dec (fun _ => ?_) (fun _ => ?_) | with_reducible refine Br.br (fun _ => ?_) (fun _ => ?_) | refine Br.mk (fun _ => ?_) (fun _ => ?_) | refine an.mk _ rfl ?_ | refine And.intro (fun _ => ?_) ?_ | (refine TkE.fL ?_; (conv => whnf); fail_if_success (show ag _ _)) | refine TkE.mk _ rfl rfl ?_ | refine Res.mk ?_ | refine a7.mk (by repeat first | exact True.intro | refine And.intro (by kernel_rfl) ?_) ?_ | refine DsE.mk [] rfl ?_ | refine ai.cu _ _ ?_ | ((with_reducible refine EqE.idT ?_); first | ((conv => arg 1; simp only [ak, List.toList_toArray, ao, af, aa, Int.toNat_natCast, Int.toNat_zero, Int.toNat_one, b3, b4, List.drop_zero, Nat.sub_zero, List.cons_append, List.nil_append]); refine EqE.mk _ rfl ?_) | refine EqE.mk _ rfl ?_) | ((with_reducible refine EqE.idP ?_); first | ((conv => arg 1; simp only [ak, List.toList_toArray, bx, bz]); refine EqE.mk _ rfl ?_) | refine EqE.mk _ rfl ?_) | ((with_reducible refine EqE.idN ?_); first | ((conv => arg 1; simp only [ak, List.toList_toArray, aa, ba, Int.toNat_natCast, Int.toNat_zero, Int.toNat_one, List.length_cons, List.length_nil, Nat.zero_add]); refine EqE.mk _ rfl ?_)) | ((with_reducible refine EqE.idW ?_); first | with_reducible refine EqE.mk _ (a6 _ (by omega)) ?_ | with_reducible refine EqE.mk _ (aq _ (by omega)) ?_ | refine EqE.mk _ (ah (by omega) (by omega)) ?_ | refine EqE.mk _ rfl ?_) | ((with_reducible refine EqE.idM ?_); refine EqE.mk _ rfl ?_) | ((with_reducible refine EqE.idI ?_); first | refine EqE.mk _ (max_eq _ _) ?_ | refine EqE.mk _ (min_eq _ _) ?_) | ((with_reducible refine EqE.idS ?_); first | (refine EqE.fP ?_; (conv => whnf); fail_if_success (show ag _ _)) | refine EqE.mk _ rfl ?_) | ((with_reducible refine EqE.idL ?_); first | refine EqE.mk _ (av _ _ _ _ (by omega) (by omega) rfl) ?_ | refine EqE.mk _ rfl ?_) | refine EqE.mk _ rfl ?_ | refine Cd.ro ?_ | refine Cd.dc ?_ | refine Cd.ob ?_ | refine Cd.ol ?_ | refine Cd.mk ⟨rfl, rfl⟩ ?_ | refine Cd.os ?_ | refine Cd.mk ?_ ?_ | refine DsE.mk [_] rfl ?_ | refine DsE.mk [_, _, _] rfl ?_)
  rw [← hfl]
  (conv => whnf)
  refine aa9 (n := 52) rfl rfl (by omega) fun w0 M S0 a w β S hr => ?_
  have g1 : AR β S w (.ptr 1 0) (a.tmps.getD 1 undef) := hr.get 1
  have g4 : AR β S w (.own 500 0 gs.length 1) (a.tmps.getD 4 undef) := hr.get 4
  obtain ⟨d, bs, hbs, hfb, hdr⟩ := mq hr (K := fun x bs => x = .slice gs.length (gs.flatMap sd)) (by
   refine DsE.mk (gs.flatMap sd) rfl (EqE.mk _ rfl ?_)
   rw [List.drop_zero, List.take_of_length_le (by rw [acy ais]; omega)]) g4
  subst hbs
  have hdr := hdr bs fun _ h => h
  have hrf := hr.freeze hfb
  simp only [AR] at g1
  obtain ⟨k1, hk1, hv1⟩ := g1
  obtain ⟨sa, c, hv4, hc, hsa⟩ := agh hdr hrf.imm
  obtain ⟨C, T, hC, _, hcc⟩ := hr.rd 1 k1 false _ hk1 rfl
  obtain ⟨u, hu, hR⟩ := hcc 0 (.d (.bool b)) rfl
  simp only [AR, DR] at hR
  subst hR
  have hd := hr.defers
  have hs : a.tmps.size = 52 := hr.size
  have hS := hrf.imm
  have hG := hrf.glob
  clear hr hrf
  obtain ⟨ts, df⟩ := a
  simp only at hd hs hv1 hv4
  subst hd
  rw [amu hs, hv1, hv4]
  exact agj _ _ _ _ _ _ _ _ _ _ _ _ _ _ _ _ _ _ _ _ _ _ _ _ _ _ _ _ _ _ _ _ _ _ _ _ _ _ _ _ _ _ _ _ _ _ _ _ _ _ b gs k1 c sa w _ hS hG ⟨lt_of_heap hC, by rw [dp hC]; exact hu⟩ hc (by omega) hfl2 hsa
 ·have h2 : 0 < (ofN m).length := by rw [List.length_pos_iff]; exact gm h0
  have h3 : m % 1000000000 < 1000000000 := Nat.mod_lt _ (by omega)
  have s3 := wq (b := 10) (k := 9) (v := m % 1000000000) (by omega) h3
  have L1 : (fa sd gs).length = gs.length * 1 := alx ais gs
  have A1 := amh gs (pg (m % 1000000000))
  have hlast : (m / 1000000000) < m ∧ m / 1000000000 ≤ (zv b l).natAbs := ⟨Nat.div_lt_self (by omega) (by omega), Nat.le_trans (Nat.div_le_self _ _) hk⟩
  have hd2 : dg 1000000000 (zv b l).natAbs = dg 1000000000 (m / 1000000000) ++ (m % 1000000000) :: vs := by rw [hd, fw (by omega) h0, List.append_assoc]; rfl
  have hg2 : ((m % 1000000000) :: vs).reverse.map pg = gs ++ [pg (m % 1000000000)] := by rw [List.reverse_cons, List.map_append, hgs]; rfl
  have hl2 : (gs ++ [pg (m % 1000000000)]).length = gs.length + 1 := by simp
  by_cases h4 : m % 1000000000 = 0
  ·have hz : (ofN (m % 1000000000)).length = 0 := da.2 h4
   rw [h4] at s3 A1
   repeat' ((conv => whnf); first | refine aw.data ?_ | with_reducible refine Br.bt fun _ => ?_ | with_reducible refine Br.bf fun _ => ?_ | refine cE ((alc (k := m) (by omega))) ?_ | refine cE s3 ?_ | refine DsE.mk (a8 [1000000000]) rfl ?_ | refine Cd.mk L1 ?_ | refine Cd.mk (abq rfl) ?_ | ((with_reducible show DsE (fa sd _) _); refine DsE.mk (List.flatMap sd _) rfl ?_) | ((with_reducible show EqE (fa sd _ ++ _) _); refine EqE.mk _ A1 ?_) | refine ai.cu _ _ ?_ (cut := ⟨.inl rfl, rfl, rfl, ack _ _ _ _ _ _ rfl⟩) | refine rgE ?_ | refine Cd.mk rfl ?_ | refine Br.t ?_ | refine Br.f ?_ | with_reducible refine Br.eqd ?_ | with_reducible refine Br.eqb ?_ | with_reducible refine Br.dec (fun _ => ?_) (fun _ => ?_) | with_reducible refine Br.br (fun _ => ?_) (fun _ => ?_) | refine Br.mk (fun _ => ?_) (fun _ => ?_) | refine an.mk _ rfl ?_ | refine And.intro (fun _ => ?_) ?_ | (refine TkE.fL ?_; (conv => whnf); fail_if_success (show ag _ _)) | refine TkE.mk _ rfl rfl ?_ | refine Res.mk ?_ | refine a7.mk (by repeat first | exact True.intro | refine And.intro (by kernel_rfl) ?_) ?_ | refine DsE.mk [] rfl ?_ | refine ai.cu _ _ ?_ | ((with_reducible refine EqE.idT ?_); first | ((conv => arg 1; simp only [ak, List.toList_toArray, ao, af, aa, Int.toNat_natCast, Int.toNat_zero, Int.toNat_one, b3, b4, List.drop_zero, Nat.sub_zero, List.cons_append, List.nil_append]); refine EqE.mk _ rfl ?_) | refine EqE.mk _ rfl ?_) | ((with_reducible refine EqE.idP ?_); first | ((conv => arg 1; simp only [ak, List.toList_toArray, bx, bz]); refine EqE.mk _ rfl ?_) | refine EqE.mk _ rfl ?_) | ((with_reducible refine EqE.idN ?_); first | ((conv => arg 1; simp only [ak, List.toList_toArray, aa, ba, Int.toNat_natCast, Int.toNat_zero, Int.toNat_one, List.length_cons, List.length_nil, Nat.zero_add]); refine EqE.mk _ rfl ?_)) | ((with_reducible refine EqE.idW ?_); first | with_reducible refine EqE.mk _ (a6 _ (by omega)) ?_ | with_reducible refine EqE.mk _ (aq _ (by omega)) ?_ | refine EqE.mk _ (ah (by omega) (by omega)) ?_ | refine EqE.mk _ rfl ?_) | ((with_reducible refine EqE.idM ?_); refine EqE.mk _ rfl ?_) | ((with_reducible refine EqE.idI ?_); first | refine EqE.mk _ (max_eq _ _) ?_ | refine EqE.mk _ (min_eq _ _) ?_) | ((with_reducible refine EqE.idS ?_); first | (refine EqE.fP ?_; (conv => whnf); fail_if_success (show ag _ _)) | refine EqE.mk _ rfl ?_) | ((with_reducible refine EqE.idL ?_); first | refine EqE.mk (sl [1000000000]) rfl ?_ | refine EqE.mk _ (av _ _ _ _ (by omega) (by omega) rfl) ?_ | refine EqE.mk _ rfl ?_) | refine EqE.mk _ rfl ?_ | refine Cd.ro ?_ | refine Cd.dc ?_ | refine Cd.ob ?_ | refine Cd.ol ?_ | refine Cd.mk ⟨rfl, rfl⟩ ?_ | refine Cd.os ?_ | refine Cd.mk ?_ ?_ | refine DsE.mk [_] rfl ?_ | refine DsE.mk [_, _, _] rfl ?_)
   refine ⟨_, ⟨m / 1000000000, (m % 1000000000) :: vs, rfl, hlast.2, hd2, ?_, ?_⟩, hlast.1⟩
   ·rw [hg2, hl2]; rfl
   ·rw [hg2, h4]; rfl
  ·have h5 : 0 < (ofN (m % 1000000000)).length := by rw [List.length_pos_iff]; exact gm h4
   have hn := am3 h4 (by omega)
   repeat' ((conv => whnf); first | refine aw.data ?_ | with_reducible refine Br.bt fun _ => ?_ | with_reducible refine Br.bf fun _ => ?_ | refine cE ((alc (k := m) (by omega))) ?_ | refine cE s3 ?_ | refine an.mk _ hn ?_ | refine DsE.mk (a8 [1000000000]) rfl ?_ | refine Cd.mk L1 ?_ | refine Cd.mk (abq rfl) ?_ | ((with_reducible show DsE (fa sd _) _); refine DsE.mk (List.flatMap sd _) rfl ?_) | ((with_reducible show EqE (fa sd _ ++ _) _); refine EqE.mk _ A1 ?_) | refine ai.cu _ _ ?_ (cut := ⟨.inl rfl, rfl, rfl, ack _ _ _ _ _ _ rfl⟩) | refine rgE ?_ | refine Cd.mk rfl ?_ | refine Br.t ?_ | refine Br.f ?_ | with_reducible refine Br.eqd ?_ | with_reducible refine Br.eqb ?_ | with_reducible refine Br.dec (fun _ => ?_) (fun _ => ?_) | with_reducible refine Br.br (fun _ => ?_) (fun _ => ?_) | refine Br.mk (fun _ => ?_) (fun _ => ?_) | refine an.mk _ rfl ?_ | refine And.intro (fun _ => ?_) ?_ | (refine TkE.fL ?_; (conv => whnf); fail_if_success (show ag _ _)) | refine TkE.mk _ rfl rfl ?_ | refine Res.mk ?_ | refine a7.mk (by repeat first | exact True.intro | refine And.intro (by kernel_rfl) ?_) ?_ | refine DsE.mk [] rfl ?_ | refine ai.cu _ _ ?_ | ((with_reducible refine EqE.idT ?_); first | ((conv => arg 1; simp only [ak, List.toList_toArray, ao, af, aa, Int.toNat_natCast, Int.toNat_zero, Int.toNat_one, b3, b4, List.drop_zero, Nat.sub_zero, List.cons_append, List.nil_append]); refine EqE.mk _ rfl ?_) | refine EqE.mk _ rfl ?_) | ((with_reducible refine EqE.idP ?_); first | ((conv => arg 1; simp only [ak, List.toList_toArray, bx, bz]); refine EqE.mk _ rfl ?_) | refine EqE.mk _ rfl ?_) | ((with_reducible refine EqE.idN ?_); first | ((conv => arg 1; simp only [ak, List.toList_toArray, aa, ba, Int.toNat_natCast, Int.toNat_zero, Int.toNat_one, List.length_cons, List.length_nil, Nat.zero_add]); refine EqE.mk _ rfl ?_)) | ((with_reducible refine EqE.idW ?_); first | with_reducible refine EqE.mk _ (a6 _ (by omega)) ?_ | with_reducible refine EqE.mk _ (aq _ (by omega)) ?_ | refine EqE.mk _ (ah (by omega) (by omega)) ?_ | refine EqE.mk _ rfl ?_) | ((with_reducible refine EqE.idM ?_); refine EqE.mk _ rfl ?_) | ((with_reducible refine EqE.idI ?_); first | refine EqE.mk _ (max_eq _ _) ?_ | refine EqE.mk _ (min_eq _ _) ?_) | ((with_reducible refine EqE.idS ?_); first | (refine EqE.fP ?_; (conv => whnf); fail_if_success (show ag _ _)) | refine EqE.mk _ rfl ?_) | ((with_reducible refine EqE.idL ?_); first | refine EqE.mk (sl [1000000000]) rfl ?_ | refine EqE.mk _ (av _ _ _ _ (by omega) (by omega) rfl) ?_ | refine EqE.mk _ rfl ?_) | refine EqE.mk _ rfl ?_ | refine Cd.ro ?_ | refine Cd.dc ?_ | refine Cd.ob ?_ | refine Cd.ol ?_ | refine Cd.mk ⟨rfl, rfl⟩ ?_ | refine Cd.os ?_ | refine Cd.mk ?_ ?_ | refine DsE.mk [_] rfl ?_ | refine DsE.mk [_, _, _] rfl ?_)
   refine ⟨_, ⟨m / 1000000000, (m % 1000000000) :: vs, rfl, hlast.2, hd2, ?_, ?_⟩, hlast.1⟩
   ·rw [hg2, hl2]; rfl
   ·rw [hg2]; rfl
end Go.Ev.Ar

-- STR
namespace Go.Ev.Ar
open Go Go.Ev Go.Proofs Go.RowKit
theorem ps1 : Sim Tryz.prog G0 false 15 [.str ⟨#[45, 49, 50]⟩] (.tup [zD (-12), .int .i64 3, .int .i64 0]) := by
 have h := ph [45, 49, 50] (by decide)
 rw [show prs [45, 49, 50] = (-12, 3, 0) by kernel_rfl, ← n6] at h
 exact h
theorem ps2 : Sim Tryz.prog G0 false 15 [.str ⟨#[49, 120]⟩] (.tup [zD 0, .int .i64 1, .int .i64 14]) := by
 have h := ph [49, 120] (by decide)
 rw [show prs [49, 120] = (0, 1, 14) by kernel_rfl, ← n6] at h
 exact h
theorem ps3 : Sim Tryz.prog G0 false 15 [.str ⟨#[45]⟩] (.tup [zD 0, .int .i64 1, .int .i64 15]) := by
 have h := ph [45] (by decide)
 rw [show prs [45] = (0, 1, 15) by kernel_rfl, ← n6] at h
 exact h
theorem ak1 : Zt 134217728 (-12) := Zt.small (by decide) (by decide)
theorem ak9 : (ofN (-12 : Int).natAbs).length ≤ 2 := Zt.len (h := 64) (by decide) (Zt.small (by decide) (by decide))
theorem ts1 : Sim Tryz.prog G0 true 17 [zD (-12)] (.str ⟨#[45, 49, 50]⟩) := by
 have h := ab7 (.of ak1) (Nat.lt_of_le_of_lt ak9 (by decide))
 rw [show txt 10 (gy (-12)) (-12 : Int).natAbs = [45, 49, 50] by kernel_rfl, ← n6] at h
 exact h
theorem ts2 : Sim Tryz.prog G0 true 19 [zD (-12)] (.str ⟨#[45, 99]⟩) := by
 have h := aet (.of ak1) (Nat.lt_of_le_of_lt ak9 (by decide))
 rw [show txt 16 (gy (-12)) (-12 : Int).natAbs = [45, 99] by kernel_rfl, ← n6] at h
 exact h
theorem adb : Sim Tryz.prog G0 true 14 [] (.bool true) := by
 have p1 := ps1
 have p2 := ps2
 have p3 := ps3
 have t1 := ts1
 have t2 := ts2
 have o1 := ad1 (-12) (by decide) (by decide)
 have e1 := rm ak1 ak1
 rw [show decide ((-12 : Int) = -12) = true by decide] at e1
 refine ck ax Tryz.func14 ?_
 repeat' ((conv => whnf); first | refine aw.data ?_ | refine cE p1 ?_ | refine cE p2 ?_ | refine cE p3 ?_ | refine cE t1 ?_ | refine cE t2 ?_ | refine cE o1 ?_ | refine cE e1 ?_ | refine rgE ?_ | refine Cd.mk rfl ?_ | refine Br.t ?_ | refine Br.f ?_ | with_reducible refine Br.eqd ?_ | with_reducible refine Br.eqb ?_ | with_reducible refine Br.dec (fun _ => ?_) (fun _ => ?_) | with_reducible refine Br.br (fun _ => ?_) (fun _ => ?_) | refine Br.mk (fun _ => ?_) (fun _ => ?_) | refine an.mk _ rfl ?_ | refine And.intro (fun _ => ?_) ?_ | (refine TkE.fL ?_; (conv => whnf); fail_if_success (show ag _ _)) | refine TkE.mk _ rfl rfl ?_ | refine Res.mk ?_ | refine a7.mk (by repeat first | exact True.intro | refine And.intro (by kernel_rfl) ?_) ?_ | refine DsE.mk [] rfl ?_ | refine ai.cu _ _ ?_ | ((with_reducible refine EqE.idT ?_); first | ((conv => arg 1; simp only [ak, List.toList_toArray, ao, af, aa, Int.toNat_natCast, Int.toNat_zero, Int.toNat_one, b3, b4, List.drop_zero, Nat.sub_zero, List.cons_append, List.nil_append]); refine EqE.mk _ rfl ?_) | refine EqE.mk _ rfl ?_) | ((with_reducible refine EqE.idP ?_); first | ((conv => arg 1; simp only [ak, List.toList_toArray, bx, bz]); refine EqE.mk _ rfl ?_) | refine EqE.mk _ rfl ?_) | ((with_reducible refine EqE.idN ?_); first | ((conv => arg 1; simp only [ak, List.toList_toArray, aa, ba, Int.toNat_natCast, Int.toNat_zero, Int.toNat_one, List.length_cons, List.length_nil, Nat.zero_add]); refine EqE.mk _ rfl ?_)) | ((with_reducible refine EqE.idW ?_); first | with_reducible refine EqE.mk _ (a6 _ (by omega)) ?_ | with_reducible refine EqE.mk _ (aq _ (by omega)) ?_ | refine EqE.mk _ (ah (by omega) (by omega)) ?_ | refine EqE.mk _ rfl ?_) | ((with_reducible refine EqE.idM ?_); refine EqE.mk _ rfl ?_) | ((with_reducible refine EqE.idI ?_); first | refine EqE.mk _ (max_eq _ _) ?_ | refine EqE.mk _ (min_eq _ _) ?_) | ((with_reducible refine EqE.idS ?_); first | (refine EqE.fP ?_; (conv => whnf); fail_if_success (show ag _ _)) | refine EqE.mk _ rfl ?_) | ((with_reducible refine EqE.idL ?_); first | refine EqE.mk _ (av _ _ _ _ (by omega) (by omega) rfl) ?_ | refine EqE.mk _ rfl ?_) | refine EqE.mk _ rfl ?_ | refine Cd.ro ?_ | refine Cd.dc ?_ | refine Cd.ob ?_ | refine Cd.ol ?_ | refine Cd.mk ⟨rfl, rfl⟩ ?_ | refine Cd.os ?_ | refine Cd.mk ?_ ?_ | refine DsE.mk [_] rfl ?_ | refine DsE.mk [_, _, _] rfl ?_)
 all_goals rfl
theorem ama (l : List UInt8) : (prs l).1.natAbs < 10 ^ l.length := by
 have h0 : 0 < 10 ^ l.length := Nat.pow_pos (by decide)
 by_cases hf : l.head? = some 45
 ·obtain ⟨r, rfl⟩ : ∃ r, l = 45 :: r := by
   cases l with
   | nil => simp at hf
   | cons y r => simp at hf; exact ⟨r, by rw [hf]⟩
  rw [aaf]
  have hn := tn r
  split
  ·exact h0
  split
  ·exact h0
  split
  ·exact h0
  split
  ·exact h0
  have h := vq (mu (wi (l := r) (by omega)))
  rw [jq] at h
  show (-(dv 10 (dgs r) : Int)).natAbs < _
  rw [List.length_cons, Nat.pow_succ]; omega
 ·rw [aag hf]
  have hn := tn l
  split
  ·exact h0
  split
  ·exact h0
  split
  ·exact h0
  split
  ·exact h0
  have h := vq (mu (wi (l := l) (by omega)))
  rw [jq] at h
  exact h
theorem amc {l : List UInt8} {k : Nat} (h : l.length ≤ k) : Zt (4 * k) (prs l).1 := by
 unfold Zt
 refine Nat.lt_of_lt_of_le (ama l) (?_ : 10 ^ l.length ≤ 2 ^ (4 * k))
 rw [Nat.pow_mul]
 exact Nat.le_trans (Nat.pow_le_pow_right (by decide) h) (Nat.pow_le_pow_left (by decide) k)
theorem arg_str {x : D} (h : aef .str x) : ∃ l : List UInt8, x = .str (bst l) ∧ l.length ≤ 9223372036854775807 := by
 obtain ⟨ds, ⟨s, rfl, h2⟩, rfl⟩ := h
 rw [yq] at h2
 refine ⟨s.data.toList, ?_, ?_⟩
 ·show D.str s = _
  rw [← ajk]
 ·simpa using h2
set_option maxHeartbeats 2000000 in
theorem vo (b : Bool) (l : List UInt32) (t : List UInt8) (hl : l.length ≤ 9223372036854775807) (ht : t.length ≤ 9223372036854775807) : Sim Tryz.prog G0 true 3 [.agg [.bool b, sl l], .str (bst t)] (.bool true) := by
 have k1 := adb
 by_cases c1 : 16 < l.length
 ·refine ck ax Tryz.func3 ?_
  repeat' ((conv => whnf); first | refine aw.data ?_ | refine cE k1 ?_ | with_reducible refine Br.bt fun _ => ?_ | with_reducible refine Br.bf fun _ => ?_ | refine rgE ?_ | refine Cd.mk rfl ?_ | refine Br.t ?_ | refine Br.f ?_ | with_reducible refine Br.eqd ?_ | with_reducible refine Br.eqb ?_ | with_reducible refine Br.dec (fun _ => ?_) (fun _ => ?_) | with_reducible refine Br.br (fun _ => ?_) (fun _ => ?_) | refine Br.mk (fun _ => ?_) (fun _ => ?_) | refine an.mk _ rfl ?_ | refine And.intro (fun _ => ?_) ?_ | (refine TkE.fL ?_; (conv => whnf); fail_if_success (show ag _ _)) | refine TkE.mk _ rfl rfl ?_ | refine Res.mk ?_ | refine a7.mk (by repeat first | exact True.intro | refine And.intro (by kernel_rfl) ?_) ?_ | refine DsE.mk [] rfl ?_ | refine ai.cu _ _ ?_ | ((with_reducible refine EqE.idT ?_); first | ((conv => arg 1; simp only [ak, List.toList_toArray, ao, af, aa, Int.toNat_natCast, Int.toNat_zero, Int.toNat_one, b3, b4, List.drop_zero, Nat.sub_zero, List.cons_append, List.nil_append]); refine EqE.mk _ rfl ?_) | refine EqE.mk _ rfl ?_) | ((with_reducible refine EqE.idP ?_); first | ((conv => arg 1; simp only [ak, List.toList_toArray, bx, bz]); refine EqE.mk _ rfl ?_) | refine EqE.mk _ rfl ?_) | ((with_reducible refine EqE.idN ?_); first | ((conv => arg 1; simp only [ak, List.toList_toArray, aa, ba, Int.toNat_natCast, Int.toNat_zero, Int.toNat_one, List.length_cons, List.length_nil, Nat.zero_add]); refine EqE.mk _ rfl ?_)) | ((with_reducible refine EqE.idW ?_); first | with_reducible refine EqE.mk _ (a6 _ (by omega)) ?_ | with_reducible refine EqE.mk _ (aq _ (by omega)) ?_ | refine EqE.mk _ (ah (by omega) (by omega)) ?_ | refine EqE.mk _ rfl ?_) | ((with_reducible refine EqE.idM ?_); refine EqE.mk _ rfl ?_) | ((with_reducible refine EqE.idI ?_); first | refine EqE.mk _ (max_eq _ _) ?_ | refine EqE.mk _ (min_eq _ _) ?_) | ((with_reducible refine EqE.idS ?_); first | (refine EqE.fP ?_; (conv => whnf); fail_if_success (show ag _ _)) | refine EqE.mk _ rfl ?_) | ((with_reducible refine EqE.idL ?_); first | refine EqE.mk _ (av _ _ _ _ (by omega) (by omega) rfl) ?_ | refine EqE.mk _ rfl ?_) | refine EqE.mk _ rfl ?_ | refine Cd.ro ?_ | refine Cd.dc ?_ | refine Cd.ob ?_ | refine Cd.ol ?_ | refine Cd.mk ⟨rfl, rfl⟩ ?_ | refine Cd.os ?_ | refine Cd.mk ?_ ?_ | refine DsE.mk [_] rfl ?_ | refine DsE.mk [_, _, _] rfl ?_)
  all_goals rfl
 by_cases c2 : 120 < t.length
 ·refine ck ax Tryz.func3 ?_
  repeat' ((conv => whnf); first | refine aw.data ?_ | refine cE k1 ?_ | with_reducible refine Br.bt fun _ => ?_ | with_reducible refine Br.bf fun _ => ?_ | refine rgE ?_ | refine Cd.mk rfl ?_ | refine Br.t ?_ | refine Br.f ?_ | with_reducible refine Br.eqd ?_ | with_reducible refine Br.eqb ?_ | with_reducible refine Br.dec (fun _ => ?_) (fun _ => ?_) | with_reducible refine Br.br (fun _ => ?_) (fun _ => ?_) | refine Br.mk (fun _ => ?_) (fun _ => ?_) | refine an.mk _ rfl ?_ | refine And.intro (fun _ => ?_) ?_ | (refine TkE.fL ?_; (conv => whnf); fail_if_success (show ag _ _)) | refine TkE.mk _ rfl rfl ?_ | refine Res.mk ?_ | refine a7.mk (by repeat first | exact True.intro | refine And.intro (by kernel_rfl) ?_) ?_ | refine DsE.mk [] rfl ?_ | refine ai.cu _ _ ?_ | ((with_reducible refine EqE.idT ?_); first | ((conv => arg 1; simp only [ak, List.toList_toArray, ao, af, aa, Int.toNat_natCast, Int.toNat_zero, Int.toNat_one, b3, b4, List.drop_zero, Nat.sub_zero, List.cons_append, List.nil_append]); refine EqE.mk _ rfl ?_) | refine EqE.mk _ rfl ?_) | ((with_reducible refine EqE.idP ?_); first | ((conv => arg 1; simp only [ak, List.toList_toArray, bx, bz]); refine EqE.mk _ rfl ?_) | refine EqE.mk _ rfl ?_) | ((with_reducible refine EqE.idN ?_); first | ((conv => arg 1; simp only [ak, List.toList_toArray, aa, ba, Int.toNat_natCast, Int.toNat_zero, Int.toNat_one, List.length_cons, List.length_nil, Nat.zero_add]); refine EqE.mk _ rfl ?_)) | ((with_reducible refine EqE.idW ?_); first | with_reducible refine EqE.mk _ (a6 _ (by omega)) ?_ | with_reducible refine EqE.mk _ (aq _ (by omega)) ?_ | refine EqE.mk _ (ah (by omega) (by omega)) ?_ | refine EqE.mk _ rfl ?_) | ((with_reducible refine EqE.idM ?_); refine EqE.mk _ rfl ?_) | ((with_reducible refine EqE.idI ?_); first | refine EqE.mk _ (max_eq _ _) ?_ | refine EqE.mk _ (min_eq _ _) ?_) | ((with_reducible refine EqE.idS ?_); first | (refine EqE.fP ?_; (conv => whnf); fail_if_success (show ag _ _)) | refine EqE.mk _ rfl ?_) | ((with_reducible refine EqE.idL ?_); first | refine EqE.mk _ (av _ _ _ _ (by omega) (by omega) rfl) ?_ | refine EqE.mk _ rfl ?_) | refine EqE.mk _ rfl ?_ | refine Cd.ro ?_ | refine Cd.dc ?_ | refine Cd.ob ?_ | refine Cd.ol ?_ | refine Cd.mk ⟨rfl, rfl⟩ ?_ | refine Cd.os ?_ | refine Cd.mk ?_ ?_ | refine DsE.mk [_] rfl ?_ | refine DsE.mk [_, _, _] rfl ?_)
  all_goals rfl
 have hz : ZR (.agg [.bool b, sl l]) (zv b l) := .mk b l (by omega)
 have hzl : (ofN (zv b l).natAbs).length ≤ 16 := Zt.len (h := 512) (by decide) (Zt.ah6 (k := 16) (by omega) (by decide))
 have s1 := ab7 hz (by omega)
 have s2 := af9 hz (by omega)
 have s3 := aet hz (by omega)
 have s4 := aim hz (by omega)
 have s5 := ph t (by omega)
 have s6 := ad2 t (by omega)
 have hv := amc (l := t) (k := 120) (by omega)
 obtain ⟨⟨v, k, c⟩, hp⟩ : ∃ p, prs t = p := ⟨_, rfl⟩
 rw [hp] at s5 s6 hv
 unfold pD at s5 s6
 simp only at s5 s6 hv
 have s7 := rm (hv.mono (by decide)) (hv.mono (by decide))
 rw [decide_eq_true rfl] at s7
 obtain ⟨x1, h1⟩ : ∃ x, txt 10 (gy (zv b l)) (zv b l).natAbs = x := ⟨_, rfl⟩
 obtain ⟨x2, h2⟩ : ∃ x, txt 16 (gy (zv b l)) (zv b l).natAbs = x := ⟨_, rfl⟩
 rw [h1] at s1 s2
 rw [h2] at s3 s4
 refine ck ax Tryz.func3 ?_
 repeat' ((conv => whnf); first | refine aw.data ?_ | refine cE k1 ?_ | with_reducible refine Br.bt fun _ => ?_ | with_reducible refine Br.bf fun _ => ?_ | refine cE s1 ?_ | refine cE s2 ?_ | refine cE s3 ?_ | refine cE s4 ?_ | refine cE s5 ?_ | refine cE s6 ?_ | refine cE s7 ?_ | refine rgE ?_ | refine Cd.mk rfl ?_ | refine Br.t ?_ | refine Br.f ?_ | with_reducible refine Br.eqd ?_ | with_reducible refine Br.eqb ?_ | with_reducible refine Br.dec (fun _ => ?_) (fun _ => ?_) | with_reducible refine Br.br (fun _ => ?_) (fun _ => ?_) | refine Br.mk (fun _ => ?_) (fun _ => ?_) | refine an.mk _ rfl ?_ | refine And.intro (fun _ => ?_) ?_ | (refine TkE.fL ?_; (conv => whnf); fail_if_success (show ag _ _)) | refine TkE.mk _ rfl rfl ?_ | refine Res.mk ?_ | refine a7.mk (by repeat first | exact True.intro | refine And.intro (by kernel_rfl) ?_) ?_ | refine DsE.mk [] rfl ?_ | refine ai.cu _ _ ?_ | ((with_reducible refine EqE.idT ?_); first | ((conv => arg 1; simp only [ak, List.toList_toArray, ao, af, aa, Int.toNat_natCast, Int.toNat_zero, Int.toNat_one, b3, b4, List.drop_zero, Nat.sub_zero, List.cons_append, List.nil_append]); refine EqE.mk _ rfl ?_) | refine EqE.mk _ rfl ?_) | ((with_reducible refine EqE.idP ?_); first | ((conv => arg 1; simp only [ak, List.toList_toArray, bx, bz]); refine EqE.mk _ rfl ?_) | refine EqE.mk _ rfl ?_) | ((with_reducible refine EqE.idN ?_); first | ((conv => arg 1; simp only [ak, List.toList_toArray, aa, ba, Int.toNat_natCast, Int.toNat_zero, Int.toNat_one, List.length_cons, List.length_nil, Nat.zero_add]); refine EqE.mk _ rfl ?_)) | ((with_reducible refine EqE.idW ?_); first | with_reducible refine EqE.mk _ (a6 _ (by omega)) ?_ | with_reducible refine EqE.mk _ (aq _ (by omega)) ?_ | refine EqE.mk _ (ah (by omega) (by omega)) ?_ | refine EqE.mk _ rfl ?_) | ((with_reducible refine EqE.idM ?_); refine EqE.mk _ rfl ?_) | ((with_reducible refine EqE.idI ?_); first | refine EqE.mk _ (max_eq _ _) ?_ | refine EqE.mk _ (min_eq _ _) ?_) | ((with_reducible refine EqE.idS ?_); first | (refine EqE.fP ?_; (conv => whnf); fail_if_success (show ag _ _)) | refine EqE.mk _ rfl ?_) | ((with_reducible refine EqE.idL ?_); first | refine EqE.mk _ (av _ _ _ _ (by omega) (by omega) rfl) ?_ | refine EqE.mk _ rfl ?_) | refine EqE.mk _ rfl ?_ | refine Cd.ro ?_ | refine Cd.dc ?_ | refine Cd.ob ?_ | refine Cd.ol ?_ | refine Cd.mk ⟨rfl, rfl⟩ ?_ | refine Cd.os ?_ | refine Cd.mk ?_ ?_ | refine DsE.mk [_] rfl ?_ | refine DsE.mk [_, _, _] rfl ?_)
 all_goals (simp only [decide_true, beq_self_eq_true]; rfl)
end Go.Ev.Ar
