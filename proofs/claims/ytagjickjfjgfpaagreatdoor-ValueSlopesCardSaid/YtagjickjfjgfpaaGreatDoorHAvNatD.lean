/- Contracts of the given functions, on data. Conditions stand in each theorem. -/
import Derived.Test.YtagjickjfjgfpaaGreatDoorHEvR
import Derived.Test.YtagjickjfjgfpaaGreatDoorHEvW
set_option linter.unusedSimpArgs false
set_option linter.unusedVariables false
namespace Go.Ev.Ar
open Go Go.Ev Go.Proofs
theorem a1u (a b : List UInt32) (ha : a.length < 2^30) (hb : b.length < 2^30) : Sim Tryz.prog G0 false 215 [sl a, sl b] (.tup [sl (ofN (nv a - nv b)), .bool (decide (nv b ≤ nv a))]) := by
 refine ao af Tryz.func215 ?_
 repeat' ((conv => whnf); first | with_reducible refine ag.data ?_ | refine aa.mk _ _ (ael _ _ (by omega) (by omega)) ?_ | refine rgE ?_ | refine Cd.mk rfl ?_ | with_reducible refine Br.dec (fun _ => ?_) (fun _ => ?_) | refine Res.mk ?_ | ((with_reducible refine EqE.idR ?_); refine EqE.mk _ (ns _) ?_) | refine Cd.om ?_)
 ·rename_i h
  have h : nv a < nv b := by unfold u5 at h; split at h <;> first | assumption | (split at h <;> simp at h)
  show D.tup _ = D.tup _
  rw [show nv a - nv b = 0 by omega, bh, decide_eq_false (by omega)]; rfl
 rename_i h
 have h : nv b ≤ nv a := by unfold u5 at h; split at h <;> first | (simp at h; done) | omega
 skip
 refine ⟨[], [0,1,6,7,18,19], [16], fun m xs h => ∃ (n i c : Nat) (l : List UInt32), m = n - i ∧ n = a.length ∧ i ≤ n ∧ c ≤ 1 ∧ l.length = n ∧ nv l + nv (b.take i) = nv (a.take i) + Pw i * c ∧ (∀ j, i ≤ j → (l.getD j 0).toNat = 0) ∧
  xs = [.d (sl a), .d (sl b), .own 16 0 n 1, .d (.int .u64 c), .d (.int .i64 n), .d (.int .i64 i)] ∧ h = [(16, false, la l)],
  ⟨_, _, _, ⟨.inl rfl, rfl, rfl, by first | rfl | (repeat first | exact all_nil _ | refine bm _ _ _ _ _ ?_)⟩, _, 0, 0, _, rfl, by omega, by omega, by omega, by simp, by simp [bo], fun j _ => iy _ _, rfl, rfl⟩, ?_⟩
 rintro m xs h ⟨n, i, c, l, rfl, hn, hi, hc, hl, hv, hz, rfl, rfl⟩
 have hxa := oz a i
 have hxb := oz b i
 repeat' ((conv => whnf); first | with_reducible refine ag.data ?_ | refine aa.mk _ _ (afj _ _) ?_ | refine aa.mk _ _ (fg _ (by omega)) ?_ | refine rgE ?_ | refine Cd.mk rfl ?_ | with_reducible refine Br.dec (fun _ => ?_) (fun _ => ?_) | refine Res.mk ?_ | refine DsE.mk (bj _) rfl ?_ | refine an.cu _ _ ?_ | ((with_reducible refine EqE.idW ?_); first | with_reducible refine EqE.mk _ (aiv _ _ (by omega) (by omega)) ?_ | with_reducible refine EqE.mk _ (apn _ (by omega)) ?_ | with_reducible refine EqE.mk _ (j8 _) ?_ | with_reducible refine EqE.mk _ (ax _ (by omega)) ?_) | ((with_reducible refine EqE.idF ?_); refine EqE.mk _ (l4 _ 4294967296 _ _ rfl) ?_) | ((with_reducible refine EqE.idS ?_); refine EqE.mk _ (ld _ _ _ _ (by first | with_reducible exact cp _ | with_reducible exact bw _ | exact cp _ | exact bw _ | rfl) (by first | omega | (simp only [List.length_set]; omega)) (by omega)) ?_) | ((with_reducible refine EqE.idL ?_); refine EqE.mk _ (ox _ _ _ _ (by omega) (by omega) rfl) ?_) | refine Cd.om ?_)
 ·rename_i h0
  refine ⟨_, ⟨n, i + 1, _, _, rfl, hn, by omega, ?_, ?_, ?_, ?_, rfl, rfl⟩, by omega⟩
  ·omega
  ·simp [hl]
  ·have hz := hz i (Nat.le_refl _)
   rw [gg] at hxa hxb
   have := aly (p := Pw i) hxa hxb hc rfl
   rw [mo (by omega) hz (by omega), ay, ay, c5, gg, gg]
   omega
  ·intro j hj
   rw [getD_set_ne (by omega)]; exact hz j (by omega)
 ·rename_i h0
  rw [decide_eq_true h]
  show D.tup [sl _, .bool true] = D.tup [sl _, .bool true]
  have e : i = n := by omega
  have h1 := dc a
  have h2 := dc l
  rw [e, List.take_of_length_le (l := a) (by omega), xp, Nat.mod_eq_of_lt (by rw [hn]; omega)] at hv
  rw [hl] at h2
  rw [← hn] at h1
  have : c = 0 := by
   rcases (show c = 0 ∨ c = 1 by omega) with h | h
   ·exact h
   ·subst h; omega
  subst this
  rw [show nv a - nv b = nv l by omega]
end Go.Ev.Ar

namespace Go.Ev.Ar
open Go Go.Ev Go.Proofs
set_option maxHeartbeats 1000000 in
theorem a0u (a b : List UInt32) (ha : a.length < 2^30) (hb : b.length < 2^30) : Sim Tryz.prog G0 false 217 [sl a, sl b] (sl (ofN (nv a * nv b))) := by
 refine ao af Tryz.func217 ?_
 have h1 := cb a
 have h2 := cb b
 repeat' ((conv => whnf); first | with_reducible refine ag.data ?_ | refine aa.mk _ _ (fg _ (by omega)) ?_ | refine rgE ?_ | refine Cd.mk rfl ?_ | ((with_reducible refine EqE.idW ?_); with_reducible refine EqE.mk _ (qx _ (by omega)) ?_) | ((with_reducible refine EqE.idR ?_); refine EqE.mk _ (ns _) ?_) | refine Cd.om ?_)
 generalize hA : ofN (nv a) = A at *
 generalize hB : ofN (nv b) = B at *
 have hvA : nv A = nv a := by rw [← hA, aw]
 have hvB : nv B = nv b := by rw [← hB, aw]
 refine ⟨[], [0,1,5,21,22,23], [20], fun m xs h => ∃ (n i : Nat) (l : List UInt32), m = A.length - i ∧ n = A.length + B.length ∧ i ≤ A.length ∧ l.length = n ∧ nv l = nv (A.take i) * nv B ∧ (∀ j, i + B.length ≤ j → (l.getD j 0).toNat = 0) ∧
  xs = [.d (sl A), .d (sl B), .own 20 0 n 1, .d (sl A), .d (.int .i64 A.length), .d (.int .i64 i)] ∧ h = [(20, false, la l)],
  ⟨_, _, _, ⟨.inl rfl, rfl, rfl, by first | rfl | (repeat first | exact all_nil _ | refine bm _ _ _ _ _ ?_)⟩, _, 0, _, rfl, by omega, by omega, by simp, by simp [bo], fun j _ => iy _ _, rfl, rfl⟩, ?_⟩
 rintro m xs h ⟨n, i, l, rfl, hn, hi, hl, hv, hz, rfl, rfl⟩
 repeat' ((conv => whnf); first | with_reducible refine ag.data ?_ | refine aa.mk _ _ (fg _ (by omega)) ?_ | refine rgE ?_ | refine Cd.mk rfl ?_ | with_reducible refine Br.dec (fun _ => ?_) (fun _ => ?_) | refine ah.mk _ (ib _ _ (by omega)) ?_ | refine Res.mk ?_ | refine DsE.mk (bj _) rfl ?_ | ((with_reducible refine EqE.idL ?_); refine EqE.mk _ (ox _ _ _ _ (by omega) (by omega) rfl) ?_) | refine Cd.om ?_)
 ·rename_i h0
  have hx := bd (A.getD i 0)
  generalize hxe : (A.getD i 0).toNat = x at *
  refine ⟨[], [0,1,5,6,7,8,21,22,23,28,29,30], [20], fun m xs h => ∃ (k c : Nat) (l : List UInt32), m = B.length - k ∧ k ≤ B.length ∧ c < 4294967296 ∧ l.length = n ∧ nv l + Pw (i + k) * c = nv (A.take i) * nv B + Pw i * (x * nv (B.take k)) ∧ (∀ j, i + B.length ≤ j → (l.getD j 0).toNat = 0) ∧
   xs = [.d (sl A), .d (sl B), .own 20 0 n 1, .d (.int .i64 i), .d (.int .u32 x), .d (.int .u64 c), .d (sl A), .d (.int .i64 A.length), .d (.int .i64 i), .d (sl B), .d (.int .i64 B.length), .d (.int .i64 k)] ∧ h = [(20, false, la l)],
   ⟨_, _, _, ⟨.inl rfl, rfl, rfl, by first | rfl | (repeat first | exact all_nil _ | refine bm _ _ _ _ _ ?_)⟩, 0, 0, _, rfl, by omega, by omega, hl, by simp [hv], hz, rfl, rfl⟩, ?_⟩
  rintro m xs h ⟨k, c, l, rfl, hk, hc, hl, hv, hz, rfl, rfl⟩
  have ho := bd (l.getD (i + k) 0)
  have hy := bd (B.getD k 0)
  have hxy : x * (B.getD k 0).toNat ≤ 4294967295 * 4294967295 := Nat.mul_le_mul (by omega) (by omega)
  repeat' ((conv => whnf); first | refine rgE ?_ | refine Cd.mk rfl ?_ | with_reducible refine Br.dec (fun _ => ?_) (fun _ => ?_) | refine ah.mk _ (ib _ _ (by omega)) ?_ | refine ah.mk _ (agd _ _ _ (by first | with_reducible exact cp _ | with_reducible exact bw _ | exact cp _ | exact bw _ | rfl) (by first | omega | (simp only [List.length_set]; omega))) ?_ | refine an.cu _ _ ?_ | ((with_reducible refine EqE.idW ?_); first | with_reducible refine EqE.mk _ (cj _) ?_ | with_reducible refine EqE.mk _ (agj _ _ (by omega)) ?_ | with_reducible refine EqE.mk _ (ar4 _ _ (by omega)) ?_ | with_reducible refine EqE.mk _ (j8 _) ?_ | with_reducible refine EqE.mk _ (amw _ (by omega)) ?_ | with_reducible refine EqE.mk _ (qx _ (by omega)) ?_ | with_reducible refine EqE.mk _ (ax _ (by omega)) ?_) | ((with_reducible refine EqE.idF ?_); refine EqE.mk _ (l4 _ 4294967296 _ _ rfl) ?_) | ((with_reducible refine EqE.idS ?_); refine EqE.mk _ (ld _ _ _ _ (by first | with_reducible exact cp _ | with_reducible exact bw _ | exact cp _ | exact bw _ | rfl) (by first | omega | (simp only [List.length_set]; omega)) (by omega)) ?_) | refine Cd.om ?_)
  ·rename_i h3
   refine ⟨_, ⟨k + 1, _, _, rfl, by omega, ?_, ?_, ?_, ?_, rfl, rfl⟩, by omega⟩
   ·omega
   ·simp [hl]
   ·have h4 := agq l (i + k) (UInt32.ofNat ((c + ((l.getD (i + k) 0).toNat + x * (B.getD k 0).toNat)) % 4294967296)) (by omega)
    rw [toNat_ofNat (by omega)] at h4
    have h5 := lu (Pw (i + k)) (c + ((l.getD (i + k) 0).toNat + x * (B.getD k 0).toNat))
    rw [ay, show i + (k + 1) = i + k + 1 from rfl, c5]
    generalize (B.getD k 0).toNat = y at *
    have h6 : Pw i * (x * (nv (B.take k) + Pw k * y)) = Pw i * (x * nv (B.take k)) + Pw (i + k) * (x * y) := by
     rw [w5]; grind
    rw [h6]
    rw [Nat.mul_add, Nat.mul_add] at h5
    omega
   ·intro j hj
    rw [getD_set_ne (by omega)]; exact hz j hj
  ·rename_i h3
   have e : k = B.length := by omega
   subst e
   refine ⟨_, ⟨n, i + 1, _, rfl, hn, by omega, ?_, ?_, ?_, rfl, rfl⟩, by omega⟩
   ·simp [hl]
   ·rw [mo (by omega) (hz _ (by omega)) (by omega), ay, hxe]
    rw [List.take_of_length_le (Nat.le_refl _)] at hv
    rw [Nat.mod_eq_of_lt hc, hv]
    grind
   ·intro j hj
    rw [getD_set_ne (by omega)]; exact hz j (by omega)
 ·rename_i h0
  show sl _ = sl _
  rw [List.take_of_length_le (by omega), hvA, hvB] at hv
  rw [hv]
end Go.Ev.Ar

namespace Go.Ev.Ar
open Go Go.Ev Go.Proofs
theorem alh (a : List UInt32) (n : Int) (ha : a.length < 2^30) (hn : n ≤ 2^30) : Sim Tryz.prog G0 false 216 [sl a, .int .i64 n] (sl (ofN (nv a * 2 ^ n.toNat))) := by
 refine ao af Tryz.func216 ?_
 have h1 := cb a
 repeat' ((conv => whnf); first | with_reducible refine ag.data ?_ | refine aa.mk _ _ (fg _ (by omega)) ?_ | refine rgE ?_ | refine Cd.mk rfl ?_ | with_reducible refine Br.dec (fun _ => ?_) (fun _ => ?_) | refine Res.mk ?_ | ((with_reducible refine EqE.idW ?_); first | refine EqE.mk _ (agk _ 32 (by omega)) ?_ | with_reducible refine EqE.mk _ (qx _ (by omega)) ?_ | with_reducible refine EqE.mk _ (ax _ (by omega)) ?_) | ((with_reducible refine EqE.idM ?_); refine EqE.mk _ (ad0 _ 32) ?_) | ((with_reducible refine EqE.idI ?_); refine EqE.mk _ (a0r _) ?_) | ((with_reducible refine EqE.idR ?_); refine EqE.mk _ (ns _) ?_) | refine Cd.om ?_)
 ·rename_i h
  have : nv a = 0 := bp.1 (by omega)
  show sl _ = sl []
  rw [this, Nat.zero_mul, bh]
 rename_i h
 generalize hA : ofN (nv a) = A at *
 have hvA : nv A = nv a := by rw [← hA, aw]
 have hs : n.toNat % 32 < 32 := Nat.mod_lt _ (by decide)
 have hN : n.toNat = 32 * (n.toNat / 32) + n.toNat % 32 := (Nat.div_add_mod _ _).symm
 have hN2 : n.toNat ≤ 2^30 := by omega
 generalize hqe : n.toNat / 32 = q at *
 generalize hse : n.toNat % 32 = s at *
 skip
 refine ⟨[], [0,5,6,7,29,30], [25], fun m xs h => ∃ (n i : Nat) (l : List UInt32), m = A.length + 1 - i ∧ n = A.length + q + 1 ∧ i ≤ A.length + 1 ∧ l.length = n ∧ nv l + Pw (q + i) * (at_ A (i - 1) * 2 ^ s / 4294967296) = Pw q * (nv (A.take i) * 2 ^ s) ∧ (∀ j, q + i ≤ j → (l.getD j 0).toNat = 0) ∧
  xs = [.d (sl A), .d (.int .i64 q), .d (.int .i64 s), .own 25 0 n 1, .d (.int .i64 ((n - q : Int).toNat : Nat)), .d (.int .i64 i)] ∧ h = [(25, false, la l)],
  ⟨_, _, _, ⟨.inl rfl, rfl, rfl, by first | rfl | (repeat first | exact all_nil _ | refine bm _ _ _ _ _ ?_)⟩, _, 0, _, rfl, ?_, by omega, by simp, ?_, fun j _ => iy _ _, rfl, rfl⟩, ?_⟩
 ·omega
 ·rw [show at_ A ((0 : Nat) - 1 : Int) = 0 from rfl, bo]; simp
 rintro m xs h ⟨n, i, l, rfl, hn, hi, hl, hv, hz, rfl, rfl⟩
 have hx1 := oz A i
 have hx2 := oz A (i - 1)
 have hy1 := ahd hx1 hs
 have hy2 := ahd hx2 hs
 repeat' ((conv => whnf); first | with_reducible refine ag.data ?_ | refine aa.mk _ _ (afj _ _) ?_ | refine aa.mk _ _ (fg _ (by omega)) ?_ | refine rgE ?_ | refine Cd.mk rfl ?_ | with_reducible refine Br.dec (fun _ => ?_) (fun _ => ?_) | refine Res.mk ?_ | refine DsE.mk (bj _) rfl ?_ | refine an.cu _ _ ?_ | ((with_reducible refine EqE.idW ?_); first | with_reducible refine EqE.mk _ (ar6 _ _ (by omega) (by omega)) ?_ | with_reducible refine EqE.mk _ (axh _ _ (by omega) (by omega)) ?_ | with_reducible refine EqE.mk _ (j8 _) ?_ | with_reducible refine EqE.mk _ (qx _ (by omega)) ?_ | with_reducible refine EqE.mk _ (ax _ (by omega)) ?_ | with_reducible refine EqE.mk _ (aj (by omega) (by omega)) ?_) | ((with_reducible refine EqE.idF ?_); refine EqE.mk _ (l4 _ 4294967296 _ _ rfl) ?_) | ((with_reducible refine EqE.idS ?_); refine EqE.mk _ (ld _ _ _ _ (by first | with_reducible exact cp _ | with_reducible exact bw _ | exact cp _ | exact bw _ | rfl) (by first | omega | (simp only [List.length_set]; omega)) (by omega)) ?_) | ((with_reducible refine EqE.idL ?_); refine EqE.mk _ (ox _ _ _ _ (by omega) (by omega) rfl) ?_) | refine Cd.om ?_)
 ·rename_i h0
  refine ⟨_, ⟨n, i + 1, _, rfl, hn, by omega, ?_, ?_, ?_, rfl, rfl⟩, by omega⟩
  ·simp [hl]
  ·have hc := adj hx2 hs
   have hd := as7 (x := at_ A i) hs hc
   rw [ap0 hc, mo (by omega) (hz _ (by omega)) (by omega), ay, ← gg, show q + (i + 1) = q + i + 1 from rfl, c5, show ((i + 1 : Nat) : Int) - 1 = i by omega, ← hd]
   have h5 := lu (Pw (q + i)) (at_ A i * 2 ^ s + at_ A (i - 1) * 2 ^ s / 4294967296)
   have h6 : Pw q * ((nv (A.take i) + Pw i * at_ A i) * 2 ^ s) = Pw q * (nv (A.take i) * 2 ^ s) + Pw (q + i) * (at_ A i * 2 ^ s) := by
    rw [w5]; grind
   rw [h6]
   rw [Nat.mul_add] at h5
   omega
  ·intro j hj
   rw [getD_set_ne (by omega)]; exact hz j (by omega)
 ·rename_i h0
  have e : i = A.length + 1 := by omega
  have e0 : at_ A (i - 1) = 0 := by rw [show (i : Int) - 1 = ((A.length : Nat) : Int) by omega, gg, oh (by omega)]
  rw [e0, List.take_of_length_le (by omega), hvA] at hv
  show sl _ = sl _
  rw [hN, ← w6, show nv l = Pw q * (nv a * 2 ^ s) by simpa using hv]
  congr 2; grind
theorem aft (a : List UInt32) (n : Int) (ha : a.length < 2^30) (hn : n ≤ 2^60) : Sim Tryz.prog G0 false 202 [sl a, .int .i64 n] (sl (ofN (nv a / 2 ^ n.toNat))) := by
 refine ao af Tryz.func202 ?_
 have h1 := cb a
 repeat' ((conv => whnf); first | with_reducible refine ag.data ?_ | refine aa.mk _ _ (fg _ (by omega)) ?_ | refine rgE ?_ | refine Cd.mk rfl ?_ | with_reducible refine Br.dec (fun _ => ?_) (fun _ => ?_) | refine Res.mk ?_ | ((with_reducible refine EqE.idW ?_); first | refine EqE.mk _ (agk _ 32 (by omega)) ?_ | with_reducible refine EqE.mk _ (aj (by omega) (by omega)) ?_) | ((with_reducible refine EqE.idM ?_); refine EqE.mk _ (ad0 _ 32) ?_) | ((with_reducible refine EqE.idI ?_); refine EqE.mk _ (a0r _) ?_) | ((with_reducible refine EqE.idR ?_); refine EqE.mk _ (ns _) ?_) | refine Cd.om ?_)
 ·rename_i h
  have h2 := dc (ofN (nv a))
  rw [aw] at h2
  have : nv a < 2 ^ n.toNat := Nat.lt_of_lt_of_le h2 (by rw [nf]; exact Nat.pow_le_pow_right (by decide) (by omega))
  show sl _ = sl []
  rw [Nat.div_eq_of_lt this, bh]
 rename_i h
 generalize hA : ofN (nv a) = A at *
 have hvA : nv A = nv a := by rw [← hA, aw]
 have hs : n.toNat % 32 < 32 := Nat.mod_lt _ (by decide)
 have hN : n.toNat = 32 * (n.toNat / 32) + n.toNat % 32 := (Nat.div_add_mod _ _).symm
 generalize hqe : n.toNat / 32 = q at *
 generalize hse : n.toNat % 32 = s at *
 skip
 refine ⟨[], [0,5,6,7,27,28], [25], fun m xs h => ∃ (n i : Nat) (l : List UInt32), m = n - i ∧ n + q = A.length ∧ i ≤ n ∧ l.length = n ∧ nv l = (nv (A.drop q) / 2 ^ s) % Pw i ∧ (∀ j, i ≤ j → (l.getD j 0).toNat = 0) ∧
  xs = [.d (sl A), .d (.int .i64 q), .d (.int .i64 s), .own 25 0 n 1, .d (.int .i64 n), .d (.int .i64 i)] ∧ h = [(25, false, la l)],
  ⟨_, _, _, ⟨.inl rfl, rfl, rfl, by first | rfl | (repeat first | exact all_nil _ | refine bm _ _ _ _ _ ?_)⟩, _, 0, _, rfl, ?_, by omega, by simp, ?_, fun j _ => iy _ _, rfl, rfl⟩, ?_⟩
 ·omega
 ·rw [bo, aei, Nat.mod_one]
 rintro m xs h ⟨n, i, l, rfl, hn, hi, hl, hv, hz, rfl, rfl⟩
 have hx1 := oz A ((q + i : Nat) : Int)
 have hx2 := oz A ((q + i + 1 : Nat) : Int)
 repeat' ((conv => whnf); first | with_reducible refine ag.data ?_ | refine aa.mk _ _ (afj _ _) ?_ | refine aa.mk _ _ (fg _ (by omega)) ?_ | refine rgE ?_ | refine Cd.mk rfl ?_ | with_reducible refine Br.dec (fun _ => ?_) (fun _ => ?_) | refine Res.mk ?_ | refine DsE.mk (bj _) rfl ?_ | refine an.cu _ _ ?_ | ((with_reducible refine EqE.idW ?_); first | with_reducible refine EqE.mk _ (abq _ (by omega)) ?_ | with_reducible refine EqE.mk _ (axh _ _ (by omega) (by omega)) ?_ | with_reducible refine EqE.mk _ (j8 _) ?_ | with_reducible refine EqE.mk _ (qx _ (by omega)) ?_ | with_reducible refine EqE.mk _ (ax _ (by omega)) ?_) | ((with_reducible refine EqE.idF ?_); with_reducible refine EqE.mk _ (acz _ _ (by omega)) ?_) | ((with_reducible refine EqE.idS ?_); refine EqE.mk _ (ld _ _ _ _ (by first | with_reducible exact cp _ | with_reducible exact bw _ | exact cp _ | exact bw _ | rfl) (by first | omega | (simp only [List.length_set]; omega)) (by omega)) ?_) | ((with_reducible refine EqE.idL ?_); refine EqE.mk _ (ox _ _ _ _ (by omega) (by omega) rfl) ?_) | refine Cd.om ?_)
 ·rename_i h0
  refine ⟨_, ⟨n, i + 1, _, rfl, hn, by omega, ?_, ?_, ?_, rfl, rfl⟩, by omega⟩
  ·simp [hl]
  ·rw [am6 hx1, mo (by omega) (hz _ (by omega)) (by omega), gg, gg, afs (z := nv (A.drop (q + i + 1 + 1))) hs, ← gw, ← gw, hv, c5, Nat.mul_comm 4294967296, Nat.mod_mul,
    eb, eb, w5]
   have e : Pw q * Pw i * 2 ^ s = Pw q * 2 ^ s * Pw i := by grind
   simp only [Nat.div_div_eq_div_mul, e]
  ·intro j hj
   rw [getD_set_ne (by omega)]; exact hz j (by omega)
 ·rename_i h0
  have e : i = n := by omega
  have h2 := dc (A.drop q)
  rw [List.length_drop, show A.length - q = n by omega] at h2
  have h3 := Nat.div_le_self (nv (A.drop q)) (2 ^ s)
  show sl _ = sl _
  rw [hv, e, Nat.mod_eq_of_lt (by omega), eb, hvA, Nat.div_div_eq_div_mul, w6, ← hN]
theorem af9 (n : Int) : Sim Tryz.prog G0 true 238 [.int .i64 n] (.int .i64 (min (max n 0) 100000)) := by
 refine ao af Tryz.func238 ?_
 repeat' ((conv => whnf); first | refine rgE ?_ | refine Res.mk ?_ | ((with_reducible refine EqE.idI ?_); first | refine EqE.mk _ (a0r _) ?_ | refine EqE.mk _ (min_eq _ _) ?_))
 show D.int _ _ = D.int _ _
 congr 1; omega
theorem a1o (a : List UInt32) (n : Int) (ha : a.length < 2^30) (hn : n ≤ 100000) : Sim Tryz.prog G0 false 235 [sl a, .int .i64 n] (sl (ofN (nv a * 2 ^ n.toNat))) := by
 refine ao af Tryz.func235 ?_
 repeat' ((conv => whnf); first | with_reducible refine ag.data ?_ | refine aa.mk _ _ (af9 _) ?_ | refine aa.mk _ _ (alh _ _ (by omega) (by omega)) ?_ | refine rgE ?_ | refine Res.mk ?_)
 show sl _ = sl _
 rw [show (min (max n 0) 100000).toNat = n.toNat by omega]
theorem a1p (a : List UInt32) (n : Int) (ha : a.length < 2^30) (hn : n ≤ 100000) : Sim Tryz.prog G0 false 237 [sl a, .int .i64 n] (sl (ofN (nv a / 2 ^ n.toNat))) := by
 refine ao af Tryz.func237 ?_
 repeat' ((conv => whnf); first | with_reducible refine ag.data ?_ | refine aa.mk _ _ (af9 _) ?_ | refine aa.mk _ _ (aft _ _ (by omega) (by omega)) ?_ | refine rgE ?_ | refine Res.mk ?_)
 show sl _ = sl _
 rw [show (min (max n 0) 100000).toNat = n.toNat by omega]
end Go.Ev.Ar

namespace Go.Ev.Ar
open Go Go.Ev Go.Proofs
theorem a5o (x : Nat) : (0 : Int) ≤ ((x % 4294967296 / 134217728 : Nat) : Int) ∧ ((x % 4294967296 / 134217728 : Nat) : Int) < ((32 : Nat) : Int) := ⟨Int.natCast_nonneg _, Int.ofNat_lt.2 (av8 x)⟩
theorem aze (x : UInt32) (hx : x.toNat ≠ 0) : Sim Tryz.prog G0 true 222 [.int .u32 x.toNat] (.int .i64 (tzn x.toNat)) := by
 refine ao af Tryz.func222 ?_
 have h1 := bd x
 have ht := adm (k := 32) hx h1
 repeat' ((conv => whnf); first | refine ah.mk _ (az3 _ _ (av8 _) (a2z _ ht)) ?_ | refine Cd.mk (a5o _) ?_ | refine rgE ?_ | refine Cd.mk rfl ?_ | with_reducible refine Br.dec (fun _ => ?_) (fun _ => ?_) | refine Res.mk ?_ | ((with_reducible refine EqE.idW ?_); first | with_reducible refine EqE.mk _ (a0z _ h1) ?_ | with_reducible refine EqE.mk _ (a0x _ hx h1) ?_ | refine EqE.mk _ (a0y _ 125613361) ?_ | with_reducible refine EqE.mk _ (qx _ (by omega)) ?_) | ((with_reducible refine EqE.idF ?_); refine EqE.mk _ (l4 _ 134217728 _ _ rfl) ?_) | refine Cd.om ?_)
 ·rename_i h; exact absurd (by omega) hx
 ·rfl
theorem a0q (a : List UInt32) (ha : a.length < 2^30) (h0 : nv a ≠ 0) : Sim Tryz.prog G0 true 201 [sl a] (.int .i64 (tzn (nv a))) := by
 refine ao af Tryz.func201 ?_
 repeat' ((conv => whnf); first | refine rgE ?_)
 refine ⟨[], [5,6,7], [], fun m xs h => ∃ (i : Nat), m = a.length - i ∧ i ≤ a.length ∧ nv (a.take i) = 0 ∧
  xs = [.d (sl a), .d (.int .i64 a.length), .d (.int .i64 i)] ∧ h = [],
  ⟨_, _, _, ⟨.inl rfl, rfl, rfl, by first | rfl | (repeat first | exact all_nil _ | refine bm _ _ _ _ _ ?_)⟩, 0, rfl, by omega, rfl, rfl, rfl⟩, ?_⟩
 rintro m xs h ⟨i, rfl, hi, hv, rfl, rfl⟩
 repeat' ((conv => whnf); first | with_reducible refine ag.data ?_ | refine aa.mk _ _ (aze _ (by omega)) ?_ | refine rgE ?_ | refine Cd.mk rfl ?_ | with_reducible refine Br.dec (fun _ => ?_) (fun _ => ?_) | with_reducible refine Br.ac1 (fun _ => ?_) (fun _ => ?_) | refine ah.mk _ (ib _ _ (by omega)) ?_ | refine Res.mk ?_ | refine an.cu _ _ ?_ | ((with_reducible refine EqE.idW ?_); first | with_reducible refine EqE.mk _ (ax _ (by omega)) ?_ | with_reducible refine EqE.mk _ (aj (by omega) (by omega)) ?_ | refine EqE.mk _ rfl ?_) | refine Cd.om ?_)
 ·rename_i h1 h2
  have h3 := bd (a.getD i 0)
  have h4 : (a.getD i 0).toNat ≠ 0 := by omega
  have h5 := adm (k := 32) h4 h3
  have h6 := ir a i hi
  rw [hv, Nat.zero_add, gw a i, nf] at h6
  have h7 : (a.getD i 0).toNat + 4294967296 * nv (a.drop (i + 1)) ≠ 0 := by omega
  have h8 := a1y (k := 32) (b := nv (a.drop (i + 1))) h4 h3
  show D.int _ _ = D.int _ _
  rw [aj (by omega) (by omega), h6, aji _ h7]
  congr 1
  have h9 : tzn ((a.getD i 0).toNat + 4294967296 * nv (a.drop (i + 1))) = tzn (a.getD i 0).toNat := h8
  rw [h9]; omega
 ·rename_i h1 h2
  refine ⟨_, ⟨i + 1, rfl, by omega, ?_, rfl, rfl⟩, by omega⟩
  rw [ay, hv, show (a.getD i 0).toNat = 0 by omega]; rfl
 ·rename_i h1
  rw [List.take_of_length_le (by omega)] at hv
  exact absurd hv h0
end Go.Ev.Ar

namespace Go.Ev.Ar
open Go Go.Ev Go.Proofs
theorem ary (n : Nat) : ((ofN n).length : Int) > 0 ↔ 0 < n := by
 have := bp (n := n); omega
theorem m6 (b : Bool) (l : List UInt32) (hl : l.length < 2^32) : Sim Tryz.prog G0 false 203 [.bool b, sl l] (zD (zv b l)) := by
 refine ao af Tryz.func203 ?_
 repeat' ((conv => whnf); first | with_reducible refine ag.data ?_ | refine aa.mk _ _ (azd _ (by omega)) ?_ | refine rgE ?_ | refine Cd.mk rfl ?_ | refine Br.t ?_ | refine Br.f ?_ | refine Br.mk (fun _ => ?_) (fun _ => ?_) | (refine TkE.fL ?_; (conv => whnf); fail_if_success (show ae _ _)) | refine Res.mk ?_ | ((with_reducible refine EqE.idS ?_); (refine EqE.fP ?_; (conv => whnf); fail_if_success (show ae _ _))) | refine Cd.ol ?_)
 all_goals
  show zD _ = D.agg [D.bool _, sl (ofN (nv l))]
  refine (a2n ?_).symm
  simp only [ary, *, Bool.true_and, Bool.false_and]
theorem ajk {b : Bool} {l : List UInt32} {n : Int} (hl : l.length < 2^32) (h : zv b l = n) : Sim Tryz.prog G0 false 203 [.bool b, sl l] (zD n) := h ▸ m6 b l hl
theorem l7 {x : D} {n : Int} (hx : ZR x n) : Sim Tryz.prog G0 false 200 [x] (zD n) := by
 obtain ⟨b, l, hl⟩ := hx
 refine ao af Tryz.func200 ?_
 repeat' ((conv => whnf); first | with_reducible refine ag.data ?_ | refine aa.mk _ _ (m6 _ _ (by omega)) ?_ | refine rgE ?_ | refine Cd.mk rfl ?_ | refine ah.mk _ rfl ?_ | (refine TkE.fL ?_; (conv => whnf); fail_if_success (show ae _ _)) | refine Res.mk ?_ | ((with_reducible refine EqE.idS ?_); (refine EqE.fP ?_; (conv => whnf); fail_if_success (show ae _ _))) | refine Cd.ol ?_)
 rfl
theorem aoi {x : D} {n : Int} (hx : ZR x n) : Sim Tryz.prog G0 false 187 [x] (zD (-n)) := by
 obtain ⟨b, l, hl⟩ := hx
 refine ao af Tryz.func187 ?_
 repeat' ((conv => whnf); first | with_reducible refine ag.data ?_ | refine aa.mk _ _ (ajk (n := -zv b l) (by omega) (by cases b <;> simp [zv])) ?_ | refine rgE ?_ | refine Cd.mk rfl ?_ | refine ah.mk _ rfl ?_ | (refine TkE.fL ?_; (conv => whnf); fail_if_success (show ae _ _)) | refine Res.mk ?_ | ((with_reducible refine EqE.idS ?_); (refine EqE.fP ?_; (conv => whnf); fail_if_success (show ae _ _))) | refine Cd.ol ?_)
 rfl
theorem a15 {b : Bool} {l : List UInt32} (hl : l.length < 2^32) : Sim Tryz.prog G0 true 197 [.agg [.bool b, sl l]] (.bool (kj l && (decide (0 < l.length) || !b))) := by
 refine ao af Tryz.func197 ?_
 repeat' ((conv => whnf); first | with_reducible refine ag.data ?_ | refine aa.mk _ _ (a3c _ (by omega)) ?_ | refine rgE ?_ | refine Cd.mk rfl ?_ | refine Br.t ?_ | refine Br.f ?_ | with_reducible refine Br.dec (fun _ => ?_) (fun _ => ?_) | refine Br.mk (fun _ => ?_) (fun _ => ?_) | refine ah.mk _ rfl ?_ | refine Res.mk ?_)
 ·rename_i h1 h2
  show D.bool _ = D.bool _
  rw [h1, show decide (0 < l.length) = true from decide_eq_true (by omega)]; rfl
 ·rename_i h1 h2
  show D.bool _ = D.bool _
  rw [h1, show decide (0 < l.length) = false from decide_eq_false (by omega)]; rfl
 ·rename_i h1
  show D.bool _ = D.bool _
  rw [h1]; rfl
theorem ux {x : D} {n : Int} (hx : ZR x n) : Sim Tryz.prog G0 true 207 [x] (.int .i64 (Int.sign n)) := by
 obtain ⟨b, l, hl⟩ := hx
 refine ao af Tryz.func207 ?_
 have hmin : ∀ k : Nat, k ≠ 0 → (if false = true then (if (1 : Int) > ((ofN k).length : Int) then (1 : Int) else ((ofN k).length : Int)) else (if (1 : Int) < ((ofN k).length : Int) then (1 : Int) else ((ofN k).length : Int))) = 1 := by
  intro k hk
  have h := bp (n := k)
  simp only [Bool.false_eq_true, if_false]; split <;> omega
 rcases Int.lt_trichotomy (zv b l) 0 with h | h | h
 ·have h1 : a7 (zv b l) = true := decide_eq_true h
  rw [Int.sign_eq_neg_one_of_neg h]
  repeat' ((conv => whnf); first | with_reducible refine ag.data ?_ | refine aa.mk _ _ (l7 (.mk _ _ hl)) ?_ | refine rgE ?_ | refine Cd.mk rfl ?_ | refine Br.mk (fun _ => ?_) (fun _ => ?_) | refine ah.mk _ rfl ?_ | (refine TkE.fL ?_; (conv => whnf); fail_if_success (show ae _ _)) | refine Res.mk ?_ | ((with_reducible refine EqE.idW ?_); refine EqE.mk _ (aj (by omega) (by omega)) ?_) | ((with_reducible refine EqE.idI ?_); refine EqE.mk 1 (hmin _ (by omega)) ?_) | ((with_reducible refine EqE.idS ?_); (refine EqE.fP ?_; (conv => whnf); fail_if_success (show ae _ _))) | refine Cd.ol ?_ | refine Cd.os ?_)
  ·rfl
  ·rename_i h2; exact absurd (h1.symm.trans h2) (by decide)
 ·have h1 : a7 (zv b l) = false := decide_eq_false (by omega)
  have h3 : ((ofN (zv b l).natAbs).length : Int) = 0 := by rw [h, show Int.natAbs 0 = 0 from rfl, bh]; rfl
  rw [show Int.sign (zv b l) = 0 by rw [h]; rfl]
  repeat' ((conv => whnf); first | with_reducible refine ag.data ?_ | refine aa.mk _ _ (l7 (.mk _ _ hl)) ?_ | refine rgE ?_ | refine Cd.mk rfl ?_ | refine Br.mk (fun _ => ?_) (fun _ => ?_) | refine ah.mk _ rfl ?_ | (refine TkE.fL ?_; (conv => whnf); fail_if_success (show ae _ _)) | refine Res.mk ?_ | ((with_reducible refine EqE.idW ?_); with_reducible refine EqE.mk _ (ax _ (by omega)) ?_) | ((with_reducible refine EqE.idI ?_); refine EqE.mk 0 (by rw [h3]; rfl) ?_) | ((with_reducible refine EqE.idS ?_); (refine EqE.fP ?_; (conv => whnf); fail_if_success (show ae _ _))) | refine Cd.ol ?_ | refine Cd.os ?_)
  ·rename_i h2; exact absurd (h1.symm.trans h2) (by decide)
  ·rfl
 ·have h1 : a7 (zv b l) = false := decide_eq_false (by omega)
  rw [Int.sign_eq_one_of_pos h]
  repeat' ((conv => whnf); first | with_reducible refine ag.data ?_ | refine aa.mk _ _ (l7 (.mk _ _ hl)) ?_ | refine rgE ?_ | refine Cd.mk rfl ?_ | refine Br.mk (fun _ => ?_) (fun _ => ?_) | refine ah.mk _ rfl ?_ | (refine TkE.fL ?_; (conv => whnf); fail_if_success (show ae _ _)) | refine Res.mk ?_ | ((with_reducible refine EqE.idW ?_); refine EqE.mk _ (aj (by omega) (by omega)) ?_) | ((with_reducible refine EqE.idI ?_); refine EqE.mk 1 (hmin _ (by omega)) ?_) | ((with_reducible refine EqE.idS ?_); (refine EqE.fP ?_; (conv => whnf); fail_if_success (show ae _ _))) | refine Cd.ol ?_ | refine Cd.os ?_)
  ·rename_i h2; exact absurd (h1.symm.trans h2) (by decide)
  ·rfl
theorem yh {x y : D} {m n : Int} (hx : ZR x m) (hy : ZR y n) : Sim Tryz.prog G0 false 185 [x, y] (zD (m + n)) := by
 obtain ⟨b, l, hl⟩ := hx
 obtain ⟨c, k, hk⟩ := hy
 refine ao af Tryz.func185 ?_
 have e1 := b5.2 (show nv l + nv k < Pw 4194305 by have h1 := dc l; have h2 := dc k; have h3 := e8 hl; have h4 := e8 hk; rw [c5]; omega)
 have e2 := b5.2 (show nv l - nv k < Pw 4194304 by have h1 := dc l; have h3 := e8 hl; omega)
 have e3 := b5.2 (show nv k - nv l < Pw 4194304 by have h1 := dc k; have h3 := e8 hk; omega)
 repeat' ((conv => whnf); first | with_reducible refine ag.data ?_ | refine aa.mk _ _ (azs _ _ (by omega) (by omega)) ?_ | refine aa.mk _ _ (a1u _ _ (by omega) (by omega)) ?_ | refine aa.mk _ _ (m6 _ _ (by omega)) ?_ | refine rgE ?_ | refine Cd.mk rfl ?_ | with_reducible refine Br.dec (fun _ => ?_) (fun _ => ?_) | refine Br.mk (fun _ => ?_) (fun _ => ?_) | refine ah.mk _ rfl ?_ | (refine TkE.fL ?_; (conv => whnf); fail_if_success (show ae _ _)) | refine Res.mk ?_ | ((with_reducible refine EqE.idS ?_); (refine EqE.fP ?_; (conv => whnf); fail_if_success (show ae _ _))) | refine Cd.ol ?_)
 ·rename_i h
  obtain rfl := eq_of_beq h
  show zD _ = zD (zv b (ofN (nv l + nv k)))
  congr 1; unfold zv; rw [aw]; split <;> omega
 ·rename_i h h2
  show zD _ = zD (zv b (ofN (nv l - nv k)))
  have h := ne_of_beq_false h
  congr 1; unfold zv; rw [aw]; cases b <;> cases c <;> simp at h ⊢ <;> omega
 ·rename_i h h2
  show zD _ = zD (zv c (ofN (nv k - nv l)))
  have h := ne_of_beq_false h
  congr 1; unfold zv; rw [aw]; cases b <;> cases c <;> simp at h ⊢ <;> omega
theorem aoh {x y : D} {m n : Int} (hx : ZR x m) (hy : ZR y n) : Sim Tryz.prog G0 false 189 [x, y] (zD (m * n)) := by
 obtain ⟨b, l, hl⟩ := hx
 obtain ⟨c, k, hk⟩ := hy
 refine ao af Tryz.func189 ?_
 have e1 := b5.2 (show nv l * nv k < Pw 8388608 by
  have h1 := dc l; have h2 := dc k; have h3 := e8 hl; have h4 := e8 hk
  rw [show 8388608 = 4194304 + 4194304 from rfl, w5]
  exact Nat.mul_lt_mul'' (by omega) (by omega))
 repeat' ((conv => whnf); first | refine aa.mk _ _ (a0u _ _ (by omega) (by omega)) ?_ | refine aa.mk _ _ (m6 _ _ (by omega)) ?_ | refine rgE ?_ | refine Cd.mk rfl ?_ | refine ah.mk _ rfl ?_ | (refine TkE.fL ?_; (conv => whnf); fail_if_success (show ae _ _)) | refine Res.mk ?_ | ((with_reducible refine EqE.idS ?_); (refine EqE.fP ?_; (conv => whnf); fail_if_success (show ae _ _))) | refine Cd.ol ?_)
 show zD _ = zD (zv (!(b == c)) (ofN (nv l * nv k)))
 congr 1; unfold zv; rw [aw, Int.natCast_mul]; cases b <;> cases c <;> simp [Int.neg_mul, Int.mul_neg]
theorem acd {x y : D} {m n : Int} (hx : ZR x m) (hy : ZR y n) : Sim Tryz.prog G0 false 210 [x, y] (zD (m - n)) := by
 obtain ⟨b, l, hl⟩ := hx
 obtain ⟨c, k, hk⟩ := hy
 have e : zv (!c) k = -zv c k := by cases c <;> simp [zv]
 refine ao af Tryz.func210 ?_
 repeat' ((conv => whnf); first | with_reducible refine ag.data ?_ | refine aa.mk _ _ (yh (.mk _ _ hl) (.mk _ _ hk)) ?_ | refine rgE ?_ | refine Cd.mk rfl ?_ | refine ah.mk _ rfl ?_ | (refine TkE.fL ?_; (conv => whnf); fail_if_success (show ae _ _)) | refine Res.mk ?_ | ((with_reducible refine EqE.idS ?_); (refine EqE.fP ?_; (conv => whnf); fail_if_success (show ae _ _))) | refine Cd.ol ?_)
 show zD _ = zD (zv b l + zv (!c) k)
 rw [e]; rfl
theorem azm {x y : D} {m n : Int} (hx : ZR x m) (hy : ZR y n) (h : Zt 134217728 (m - n)) : Sim Tryz.prog G0 true 230 [x, y] (.int .i64 (Int.sign (m - n))) := by
 obtain ⟨b, l, hl⟩ := hx
 obtain ⟨c, k, hk⟩ := hy
 refine ao af Tryz.func230 ?_
 repeat' ((conv => whnf); first | with_reducible refine ag.data ?_ | refine aa.mk _ _ (acd (.mk _ _ hl) (.mk _ _ hk)) ?_ | refine aa.mk _ _ (ux (.of h)) ?_ | refine rgE ?_ | refine Cd.mk rfl ?_ | (refine TkE.fL ?_; (conv => whnf); fail_if_success (show ae _ _)) | refine Res.mk ?_)
 rfl
theorem akl (x y : Nat) : [A.d (D.int .u32 ((x % 4294967296 : Nat) : Int)), A.d (D.int .u32 ((y % 4294967296 : Nat) : Int))] = (bj [UInt32.ofNat x, UInt32.ofNat y]).map A.d := by
 simp [bj]
theorem nv2 {x : Nat} (h : x < 18446744073709551616) : nv [UInt32.ofNat x, UInt32.ofNat (x / 4294967296)] = x := by
 simp only [fj, vp, UInt32.toNat_ofNat']; omega
theorem zh (n : Int) (h1 : -9223372036854775808 ≤ n) (h2 : n ≤ 9223372036854775807) : Sim Tryz.prog G0 false 178 [.int .i64 n] (zD n) := by
 refine ao af Tryz.func178 ?_
 rcases Int.lt_or_le n 0 with h | h
 ·have w1 : IntKind.u64.wrap n = ((18446744073709551616 - n.natAbs : Nat) : Int) := by
   have e : IntKind.u64.wrap n = if (false && decide (n % 2 ^ 64 ≥ 2 ^ 63)) = true then n % 2 ^ 64 - 2 ^ 64 else n % 2 ^ 64 := rfl
   rw [e, if_neg (by simp)]; omega
  have w2 : IntKind.u64.wrap (0 - ((18446744073709551616 - n.natAbs : Nat) : Int)) = ((n.natAbs : Nat) : Int) := by
   generalize hx : (0 - ((18446744073709551616 - n.natAbs : Nat) : Int)) = x
   have e : IntKind.u64.wrap x = if (false && decide (x % 2 ^ 64 ≥ 2 ^ 63)) = true then x % 2 ^ 64 - 2 ^ 64 else x % 2 ^ 64 := rfl
   rw [e, if_neg (by simp)]; omega
  repeat' ((conv => whnf); first | with_reducible refine ag.data ?_ | refine aa.mk _ _ (m6 _ _ (by simp)) ?_ | refine DsE.mk (bj [UInt32.ofNat n.natAbs, UInt32.ofNat (n.natAbs / 4294967296)]) (akl _ _) ?_ | refine rgE ?_ | refine Cd.mk rfl ?_ | with_reducible refine Br.dec (fun _ => ?_) (fun _ => ?_) | (refine TkE.fL ?_; (conv => whnf); fail_if_success (show ae _ _)) | refine Res.mk ?_ | ((with_reducible refine EqE.idW ?_); first | refine EqE.mk _ w1 ?_ | refine EqE.mk _ w2 ?_ | with_reducible refine EqE.mk _ (j8 _) ?_) | ((with_reducible refine EqE.idF ?_); first | with_reducible refine EqE.mk _ (acz _ _ (by omega)) ?_ | refine EqE.mk _ (l4 _ 4294967296 _ _ rfl) ?_) | ((with_reducible refine EqE.idS ?_); (refine EqE.fP ?_; (conv => whnf); fail_if_success (show ae _ _))) | ((with_reducible refine EqE.idL ?_); refine EqE.mk (sl [UInt32.ofNat n.natAbs, UInt32.ofNat (n.natAbs / 4294967296)]) rfl ?_) | refine Cd.ol ?_ | refine Cd.om ?_)
  ·show zD _ = zD (zv (decide (n < 0)) _)
   rw [decide_eq_true h, ae7, nv2 (by omega)]; congr 1; omega
  ·omega
 ·have w1 : IntKind.u64.wrap n = ((n.natAbs : Nat) : Int) := by rw [wrap_u64 h (by omega)]; omega
  repeat' ((conv => whnf); first | with_reducible refine ag.data ?_ | refine aa.mk _ _ (m6 _ _ (by simp)) ?_ | refine DsE.mk (bj [UInt32.ofNat n.natAbs, UInt32.ofNat (n.natAbs / 4294967296)]) (akl _ _) ?_ | refine rgE ?_ | refine Cd.mk rfl ?_ | with_reducible refine Br.dec (fun _ => ?_) (fun _ => ?_) | (refine TkE.fL ?_; (conv => whnf); fail_if_success (show ae _ _)) | refine Res.mk ?_ | ((with_reducible refine EqE.idW ?_); first | refine EqE.mk _ w1 ?_ | with_reducible refine EqE.mk _ (aiv _ _ (by omega) (by omega)) ?_ | with_reducible refine EqE.mk _ (j8 _) ?_) | ((with_reducible refine EqE.idF ?_); first | with_reducible refine EqE.mk _ (acz _ _ (by omega)) ?_ | refine EqE.mk _ (l4 _ 4294967296 _ _ rfl) ?_) | ((with_reducible refine EqE.idS ?_); (refine EqE.fP ?_; (conv => whnf); fail_if_success (show ae _ _))) | ((with_reducible refine EqE.idL ?_); refine EqE.mk (sl [UInt32.ofNat n.natAbs, UInt32.ofNat (n.natAbs / 4294967296)]) rfl ?_) | refine Cd.ol ?_ | refine Cd.om ?_)
  ·omega
  ·show zD _ = zD (zv (decide (n < 0)) _)
   rw [decide_eq_false (by omega), aol, nv2 (by omega)]; congr 1; omega
theorem a3g {x k : Nat} (h : x < 2 ^ (32 * k)) : (ofN x).length ≤ k := b5.2 (by rw [nf]; exact h)
theorem akk {l : List UInt32} {n : Int} {k j : Nat} (hl : l.length ≤ k) (hn : n ≤ 32 * j) : (ofN (nv l * 2 ^ n.toNat)).length ≤ k + j := by
 refine a3g ?_
 have h1 := dc l
 rw [nf] at h1
 rw [Nat.mul_add, Nat.pow_add]
 exact Nat.mul_lt_mul_of_lt_of_le (Nat.lt_of_lt_of_le h1 (Nat.pow_le_pow_right (by decide) (by omega))) (Nat.pow_le_pow_right (by decide) (by omega)) (Nat.pow_pos (by decide))
theorem azp (b : Bool) (l : List UInt32) (k : Nat) : zv b (ofN (nv l * 2 ^ k)) = zv b l * 2 ^ k := by
 unfold zv; rw [aw, Int.natCast_mul, Int.natCast_pow]; cases b
 ·rfl
 ·simp only [if_true, Int.neg_mul]; rfl
theorem wa {x : D} {m : Int} (n : Int) (hx : ZR x m) (hn : n ≤ 8388608) : Sim Tryz.prog G0 false 186 [x, .int .i64 n] (zD (m * 2 ^ n.toNat)) := by
 obtain ⟨b, l, hl⟩ := hx
 have hlen := akk (j := 262144) hl (show n ≤ 32 * (262144 : Nat) by omega)
 refine ao af Tryz.func186 ?_
 repeat' ((conv => whnf); first | refine aa.mk _ _ (alh _ _ (by omega) (by omega)) ?_ | refine aa.mk _ _ (m6 _ _ (by omega)) ?_ | refine rgE ?_ | refine Cd.mk rfl ?_ | refine ah.mk _ rfl ?_ | (refine TkE.fL ?_; (conv => whnf); fail_if_success (show ae _ _)) | refine Res.mk ?_ | ((with_reducible refine EqE.idS ?_); (refine EqE.fP ?_; (conv => whnf); fail_if_success (show ae _ _))) | refine Cd.ol ?_)
 show zD _ = zD (zv b (ofN (nv l * 2 ^ n.toNat)))
 rw [azp]
theorem a04 (N k : Nat) : (-(N : Int)) / 2 ^ k = if N / 2 ^ k * 2 ^ k = N then -((N / 2 ^ k : Nat) : Int) else -((N / 2 ^ k : Nat) : Int) - 1 := by
 have hp : 0 < 2 ^ k := Nat.pow_pos (by decide)
 have e : (2 : Int) ^ k = ((2 ^ k : Nat) : Int) := by rw [Int.natCast_pow]; rfl
 rw [e]
 generalize 2 ^ k = p at hp
 have h1 := Nat.div_add_mod N p
 have h2 := Nat.mod_lt N hp
 have h1 : N = N / p * p + N % p := by rw [Nat.mul_comm]; exact h1.symm
 generalize N / p = q at *
 generalize N % p = r at *
 split
 ·rename_i h
  rw [← h, Int.natCast_mul, ← Int.neg_mul, Int.mul_ediv_cancel _ (by omega)]
 ·rename_i h
  have h3 : -(N : Int) = (p : Int) * (-(q : Int) - 1) + ((p : Int) - r) := by
   rw [h1, Int.natCast_add, Int.natCast_mul]; grind
  rw [h3, Int.mul_add_ediv_left _ _ (by omega), Int.ediv_eq_zero_of_lt (by omega) (by omega)]; omega
theorem avc {x : D} {m : Int} (n : Int) (hx : ZR x m) (hn : n ≤ 8388608) : Sim Tryz.prog G0 false 209 [x, .int .i64 n] (zD (m / 2 ^ n.toNat)) := by
 obtain ⟨b, l, hl⟩ := hx
 have e1 : (ofN (nv l / 2 ^ n.toNat)).length ≤ 4194304 := Nat.le_trans (b5.2 (Nat.lt_of_le_of_lt (Nat.div_le_self _ _) (dc l))) hl
 have hz1 : Zt 134217728 (zv b (ofN (nv l / 2 ^ n.toNat))) := Zt.agr e1 (by decide)
 have e2 : (ofN (zv b (ofN (nv l / 2 ^ n.toNat))).natAbs).length ≤ 4194304 := hz1.len (by decide)
 have e3 := akk (j := 262144) e2 (show n ≤ 32 * (262144 : Nat) by omega)
 have e4 : nv (ofN (nv (ofN (zv b (ofN (nv l / 2 ^ n.toNat))).natAbs) * 2 ^ n.toNat)) = nv l / 2 ^ n.toNat * 2 ^ n.toNat := by
  rw [aw, aw, nw, aw]
 have h1 := a04 (nv l) n.toNat
 refine ao af Tryz.func209 ?_
 repeat' ((conv => whnf); first | refine aa.mk _ _ (aft _ _ (by omega) (by omega)) ?_ | refine aa.mk _ _ (m6 _ _ (by omega)) ?_ | refine aa.mk _ _ (l7 (.mk _ _ hl)) ?_ | refine aa.mk _ _ (alh _ _ (by omega) (by omega)) ?_ | refine aa.mk _ _ (ael _ _ (by omega) (by omega)) ?_ | refine aa.mk _ _ (zh _ (by decide) (by decide)) ?_ | refine aa.mk _ _ (acd (.of hz1) (.of (n := 1) (.small (by decide) (by decide)))) ?_ | refine rgE ?_ | refine Cd.mk rfl ?_ | refine Br.t ?_ | refine Br.f ?_ | with_reducible refine Br.ac1 (fun _ => ?_) (fun _ => ?_) | refine Br.mk (fun _ => ?_) (fun _ => ?_) | refine ah.mk _ rfl ?_ | (refine TkE.fL ?_; (conv => whnf); fail_if_success (show ae _ _)) | refine Res.mk ?_ | ((with_reducible refine EqE.idS ?_); (refine EqE.fP ?_; (conv => whnf); fail_if_success (show ae _ _))) | refine Cd.ol ?_)
 ·rename_i h h2
  rw [e4] at h2
  obtain rfl : b = true := by cases b <;> simp_all [ace]
  have h3 : ¬ (nv l / 2 ^ n.toNat * 2 ^ n.toNat = nv l) := fun e => h2 (ajy e)
  rw [if_neg h3] at h1
  show zD (-(nv l : Int) / _) = zD (zv true (ofN (nv l / 2 ^ n.toNat)) - 1)
  rw [h1, ae7, aw]
 ·rename_i h h2
  rw [e4] at h2
  obtain rfl : b = true := by cases b <;> simp_all [ace]
  have h3 : nv l / 2 ^ n.toNat * 2 ^ n.toNat = nv l := by
   rcases Nat.lt_trichotomy (nv l / 2 ^ n.toNat * 2 ^ n.toNat) (nv l) with h4 | h4 | h4
   ·rw [mc h4] at h2; cases h2
   ·exact h4
   ·rw [aa2 h4] at h2; cases h2
  rw [if_pos h3] at h1
  show zD (-(nv l : Int) / _) = zD (zv true (ofN (nv l / 2 ^ n.toNat)))
  rw [h1, ae7, aw]
 ·rename_i h
  show zD _ = zD (zv b (ofN (nv l / 2 ^ n.toNat)))
  congr 1
  unfold zv
  cases b
  ·simp [aw]
  ·rw [ace] at h
   have h3 : nv l = 0 := by simpa using h
   simp [aw, h3]
end Go.Ev.Ar

namespace Go.Ev.Ar
open Go Go.Ev Go.Proofs
theorem atm (e : Int) : Sim Tryz.prog G0 true 177 [.int .i64 e] (.int .i64 (min (max e (-20000)) 20000)) := by
 refine ao af Tryz.func177 ?_
 repeat' ((conv => whnf); first | refine rgE ?_ | refine Res.mk ?_ | ((with_reducible refine EqE.idI ?_); first | refine EqE.mk _ (max_eq _ _) ?_ | refine EqE.mk _ (min_eq _ _) ?_))
 rfl
theorem ym (e : Int) (h1 : -2097152 ≤ e) (h2 : e ≤ 2097152) : Sim Tryz.prog G0 true 176 [.int .i64 e] (.int .i64 e) := by
 refine ao af Tryz.func176 ?_
 repeat' ((conv => whnf); first | refine rgE ?_ | refine Res.mk ?_ | ((with_reducible refine EqE.idI ?_); first | refine EqE.mk _ (max_eq _ _) ?_ | refine EqE.mk _ (min_eq _ _) ?_))
 show D.int _ _ = D.int _ _
 congr 1; omega
theorem ko {x : D} {m e : Int} (hx : ZR x m) (hm : Zt 134217728 m) (h1 : -1099511627776 ≤ e) (h2 : e ≤ 1099511627776) : Sim Tryz.prog G0 false 175 [x, .int .i64 e] (dyD (dof m e)) := by
 obtain ⟨b, l, hl⟩ := hx
 have e1 := hm.len (k := 4194304) (by decide)
 refine ao af Tryz.func175 ?_
 have h4 := bp (n := (zv b l).natAbs)
 by_cases h0 : zv b l = 0
 ·rw [h0, og, ← tq]
  repeat' ((conv => whnf); first | with_reducible refine ag.data ?_ | with_reducible refine Br.bt fun _ => ?_ | refine aa.mk _ _ (l7 (.mk _ _ hl)) ?_ | refine rgE ?_ | refine Cd.mk rfl ?_ | refine ah.mk _ rfl ?_ | (refine TkE.fL ?_; (conv => whnf); fail_if_success (show ae _ _)) | refine Res.mk ?_ | ((with_reducible refine EqE.idS ?_); (refine EqE.fP ?_; (conv => whnf); fail_if_success (show ae _ _))) | refine Cd.ol ?_)
  rfl
 ·have h3 : nv (ofN (zv b l).natAbs) ≠ 0 := by rw [aw]; omega
  have h5 : tzn (nv (ofN (zv b l).natAbs)) < 134217728 := by rw [aw]; exact hm.tz h0
  rw [← aj9 e h0]
  repeat' ((conv => whnf); first | with_reducible refine ag.data ?_ | with_reducible refine Br.bf fun _ => ?_ | refine aa.mk _ _ (l7 (.mk _ _ hl)) ?_ | refine aa.mk _ _ (a0q _ (by omega) h3) ?_ | refine aa.mk _ _ (aft _ _ (by omega) (by omega)) ?_ | refine rgE ?_ | refine Cd.mk rfl ?_ | refine ah.mk _ rfl ?_ | (refine TkE.fL ?_; (conv => whnf); fail_if_success (show ae _ _)) | refine Res.mk ?_ | ((with_reducible refine EqE.idW ?_); refine EqE.mk _ (aj (by omega) (by omega)) ?_) | ((with_reducible refine EqE.idS ?_); (refine EqE.fP ?_; (conv => whnf); fail_if_success (show ae _ _))) | refine Cd.ol ?_)
  show D.agg [D.bool _, sl _, D.int _ _] = D.agg [D.bool _, sl (ofN (nv (ofN (zv b l).natAbs) / 2 ^ tzn (nv (ofN (zv b l).natAbs)))), D.int _ (e + tzn (nv (ofN (zv b l).natAbs)))]
  rw [aw]
theorem acm {x : D} {m e : Int} {q : Dyadic} (hx : ZR x m) (hm : Zt 134217728 m) (h1 : -1099511627776 ≤ e) (h2 : e ≤ 1099511627776) (h : dof m e = q) : Sim Tryz.prog G0 false 175 [x, .int .i64 e] (dyD q) := h ▸ ko hx hm h1 h2
theorem adp {b : Bool} {l : List UInt32} (hl : l.length ≤ 65536) : Zt 2097152 (zv b l) := Zt.agr hl (by decide)
theorem pe {x : D} {q : Dyadic} (hx : DyR x q) : Sim Tryz.prog G0 false 174 [x] (dyD q) := by
 obtain ⟨b, l, e, hl, h1, h2, hq⟩ := hx
 refine ao af Tryz.func174 ?_
 repeat' ((conv => whnf); first | refine aa.mk _ _ (ym _ (by omega) (by omega)) ?_ | refine aa.mk _ _ (ko (.mk b l (by omega)) ((adp hl).mono (by decide)) (by omega) (by omega)) ?_ | refine rgE ?_ | refine Cd.mk rfl ?_ | refine ah.mk _ rfl ?_ | (refine TkE.fL ?_; (conv => whnf); fail_if_success (show ae _ _)) | refine Res.mk ?_ | ((with_reducible refine EqE.idS ?_); (refine EqE.fP ?_; (conv => whnf); fail_if_success (show ae _ _))) | refine Cd.ol ?_)
 rfl
theorem df {x : D} {q : Dyadic} (hx : DyR x q) : Sim Tryz.prog G0 false 208 [x] (dyD q) := by
 obtain ⟨b, l, e, hl, h1, h2, hq⟩ := hx
 refine ao af Tryz.func208 ?_
 repeat' ((conv => whnf); first | with_reducible refine ag.data ?_ | refine aa.mk _ _ (pe (.mk b l e hl h1 h2 hq)) ?_ | refine rgE ?_ | refine Cd.mk rfl ?_ | (refine TkE.fL ?_; (conv => whnf); fail_if_success (show ae _ _)) | refine Res.mk ?_ | ((with_reducible refine EqE.idS ?_); (refine EqE.fP ?_; (conv => whnf); fail_if_success (show ae _ _))) | refine Cd.ol ?_)
 rfl
theorem gi {x : D} {q : Dyadic} (hx : DyR x q) : Sim Tryz.prog G0 true 182 [x] (.int .i64 (dsg q)) := by
 obtain ⟨b, l, e, hl, h1, h2, hq⟩ := hx
 refine ao af Tryz.func182 ?_
 repeat' ((conv => whnf); first | with_reducible refine ag.data ?_ | refine aa.mk _ _ (ux (.mk b l (by omega))) ?_ | refine rgE ?_ | refine Cd.mk rfl ?_ | (refine TkE.fL ?_; (conv => whnf); fail_if_success (show ae _ _)) | refine Res.mk ?_)
 show D.int _ _ = D.int _ (Int.sign (zv b l))
 rw [az7]
theorem tj (n : Int) (h1 : -9223372036854775808 ≤ n) (h2 : n ≤ 9223372036854775807) : Sim Tryz.prog G0 false 128 [.int .i64 n] (dyD (dof n 0)) := by
 have h3 : Zt 134217728 n := .small (by omega) (by decide)
 refine ao af Tryz.func128 ?_
 repeat' ((conv => whnf); first | with_reducible refine ag.data ?_ | refine aa.mk _ _ (zh _ (by omega) (by omega)) ?_ | refine aa.mk _ _ (ko (.of h3) h3 (by decide) (by decide)) ?_ | refine rgE ?_ | refine Cd.mk rfl ?_ | (refine TkE.fL ?_; (conv => whnf); fail_if_success (show ae _ _)) | refine Res.mk ?_ | ((with_reducible refine EqE.idS ?_); (refine EqE.fP ?_; (conv => whnf); fail_if_success (show ae _ _))) | refine Cd.ol ?_)
 rfl
theorem th {x y : D} {p q : Dyadic} (hx : DyR x p) (hy : DyR y q) : Sim Tryz.prog G0 false 137 [x, y] (dyD (p + q)) := by
 obtain ⟨hp1, hp2, hp3⟩ := hx.parts
 obtain ⟨hq1, hq2, hq3⟩ := hy.parts
 have kx := hx
 have ky := hy
 have hp := DyR.of hx.ht
 have hq := DyR.of hy.ht
 obtain ⟨b, l, e, hl, h1, h2, _⟩ := hx
 obtain ⟨c, k, f, hk, h3, h4, _⟩ := hy
 generalize dof (zv b l) e = p at *
 generalize dof (zv c k) f = q at *
 have u1 : Zt 4194304 (ak p * 2 ^ (av p - min (av p) (av q)).toNat) := hp1.shl (by omega)
 have u2 : Zt 4194304 (ak q * 2 ^ (av q - min (av p) (av q)).toNat) := hq1.shl (by omega)
 refine ao af Tryz.func137 ?_
 repeat' ((conv => whnf); first | with_reducible refine ag.data ?_ | refine aa.mk _ _ (pe kx) ?_ | refine aa.mk _ _ (pe ky) ?_ | refine aa.mk _ _ (gi hp) ?_ | refine aa.mk _ _ (gi hq) ?_ | refine aa.mk _ _ (wa _ (.of (n := ak p) (hp1.mono (by decide))) (by omega)) ?_ | refine aa.mk _ _ (wa _ (.of (n := ak q) (hq1.mono (by decide))) (by omega)) ?_ | refine aa.mk _ _ (yh (.of (u1.mono (by decide))) (.of (u2.mono (by decide)))) ?_ | refine aa.mk _ _ (ko (.of ((u1.add u2 (c := 5000000) (by decide)).mono (by decide))) ((u1.add u2 (c := 5000000) (by decide)).mono (by decide)) (by omega) (by omega)) ?_ | refine rgE ?_ | refine Cd.mk rfl ?_ | with_reducible refine Br.dec (fun _ => ?_) (fun _ => ?_) | refine ah.mk _ rfl ?_ | (refine TkE.fL ?_; (conv => whnf); fail_if_success (show ae _ _)) | refine Res.mk ?_ | ((with_reducible refine EqE.idW ?_); refine EqE.mk _ (aj (by omega) (by omega)) ?_) | ((with_reducible refine EqE.idI ?_); refine EqE.mk _ (min_eq _ _) ?_) | ((with_reducible refine EqE.idS ?_); (refine EqE.fP ?_; (conv => whnf); fail_if_success (show ae _ _))) | refine Cd.ol ?_)
 ·rename_i h
  show dyD _ = dyD q
  rw [jj.1 h, Dyadic.zero_add]
 ·rename_i h0 h
  show dyD _ = dyD p
  rw [jj.1 h, Dyadic.add_zero]
 ·exact congrArg dyD (aj7 p q).symm
theorem qt {x : D} {p : Dyadic} (hx : DyR x p) : Sim Tryz.prog G0 false 148 [x] (dyD (-p)) := by
 obtain ⟨b, l, e, hl, h1, h2, hq⟩ := hx
 have hz := adp (b := b) hl
 refine ao af Tryz.func148 ?_
 repeat' ((conv => whnf); first | refine aa.mk _ _ (aoi (.mk b l (by omega))) ?_ | refine aa.mk _ _ (ym _ (by omega) (by omega)) ?_ | refine aa.mk _ _ (ko (.of (hz.neg.mono (by decide))) (hz.neg.mono (by decide)) (by omega) (by omega)) ?_ | refine rgE ?_ | refine Cd.mk rfl ?_ | refine ah.mk _ rfl ?_ | (refine TkE.fL ?_; (conv => whnf); fail_if_success (show ae _ _)) | refine Res.mk ?_ | ((with_reducible refine EqE.idS ?_); (refine EqE.fP ?_; (conv => whnf); fail_if_success (show ae _ _))) | refine Cd.ol ?_)
 exact congrArg dyD (n5 _ _)
theorem al5 {x y : D} {p q : Dyadic} (hx : DyR x p) (hy : DyR y q) : Sim Tryz.prog G0 false 138 [x, y] (dyD (p - q)) := by
 obtain ⟨b, l, e, hl, h1, h2, hq⟩ := hx
 obtain ⟨c, k, f, hk, h3, h4, hr⟩ := hy
 have hz := adp (b := c) hk
 have e1 : (ofN (-zv c k).natAbs).length ≤ 65536 := hz.neg.len (by decide)
 have e2 : dof (zv (a7 (-zv c k)) (ofN (-zv c k).natAbs)) f = -dof (zv c k) f := by rw [p7, n5]
 have kx := DyR.mk b l e hl h1 h2 hq
 have ky := DyR.mk (a7 (-zv c k)) (ofN (-zv c k).natAbs) f e1 h3 h4 (e2 ▸ hr.neg)
 rw [e2] at ky
 refine ao af Tryz.func138 ?_
 repeat' ((conv => whnf); first | refine aa.mk _ _ (aoi (.mk c k (by omega))) ?_ | refine aa.mk _ _ (th kx ky) ?_ | refine rgE ?_ | refine Cd.mk rfl ?_ | refine ah.mk _ rfl ?_ | (refine TkE.fL ?_; (conv => whnf); fail_if_success (show ae _ _)) | refine Res.mk ?_ | ((with_reducible refine EqE.idS ?_); (refine EqE.fP ?_; (conv => whnf); fail_if_success (show ae _ _))) | refine Cd.ol ?_)
 rfl
theorem jw {x y : D} {p q : Dyadic} (hx : DyR x p) (hy : DyR y q) (hpq : Ht 1048576 (p - q)) : Sim Tryz.prog G0 true 146 [x, y] (.int .i64 (dsg (p - q))) := by
 have kx := hx
 have ky := hy
 obtain ⟨b, l, e, hl, h1, h2, hq⟩ := hx
 obtain ⟨c, k, f, hk, h3, h4, hr⟩ := hy
 refine ao af Tryz.func146 ?_
 repeat' ((conv => whnf); first | with_reducible refine ag.data ?_ | refine aa.mk _ _ (al5 kx ky) ?_ | refine aa.mk _ _ (gi (.of hpq)) ?_ | refine rgE ?_ | refine Cd.mk rfl ?_ | (refine TkE.fL ?_; (conv => whnf); fail_if_success (show ae _ _)) | refine Res.mk ?_)
 rfl
theorem oe {x y : D} {p q : Dyadic} (hx : DyR x p) (hy : DyR y q) : Sim Tryz.prog G0 false 145 [x, y] (dyD (p * q)) := by
 obtain ⟨b, l, e, hl, h1, h2, _⟩ := hx
 obtain ⟨c, k, f, hk, h3, h4, _⟩ := hy
 have hz := (adp (b := b) hl).mul (adp (b := c) hk) (c := 4194304) (by decide)
 refine ao af Tryz.func145 ?_
 repeat' ((conv => whnf); first | refine aa.mk _ _ (aoh (.mk b l (by omega)) (.mk c k (by omega))) ?_ | refine aa.mk _ _ (ym _ (by omega) (by omega)) ?_ | refine aa.mk _ _ (ko (.of (hz.mono (by decide))) (hz.mono (by decide)) (by omega) (by omega)) ?_ | refine rgE ?_ | refine Cd.mk rfl ?_ | refine ah.mk _ rfl ?_ | (refine TkE.fL ?_; (conv => whnf); fail_if_success (show ae _ _)) | refine Res.mk ?_ | ((with_reducible refine EqE.idW ?_); refine EqE.mk _ (aj (by omega) (by omega)) ?_) | ((with_reducible refine EqE.idS ?_); (refine EqE.fP ?_; (conv => whnf); fail_if_success (show ae _ _))) | refine Cd.ol ?_)
 exact congrArg dyD (o9 _ _ _ _)
theorem afu {x : D} {p : Dyadic} (n : Int) (hx : DyR x p) : Sim Tryz.prog G0 false 126 [x, .int .i64 n] (dyD (p * dof 1 (min (max n (-20000)) 20000))) := by
 obtain ⟨b, l, e, hl, h1, h2, hq⟩ := hx
 have hz := adp (b := b) hl
 refine ao af Tryz.func126 ?_
 repeat' ((conv => whnf); first | refine aa.mk _ _ (ym _ (by omega) (by omega)) ?_ | refine aa.mk _ _ (atm _) ?_ | refine aa.mk _ _ (ko (.mk b l (by omega)) (hz.mono (by decide)) (by omega) (by omega)) ?_ | refine rgE ?_ | refine Cd.mk rfl ?_ | refine ah.mk _ rfl ?_ | (refine TkE.fL ?_; (conv => whnf); fail_if_success (show ae _ _)) | refine Res.mk ?_ | ((with_reducible refine EqE.idW ?_); refine EqE.mk _ (aj (by omega) (by omega)) ?_) | ((with_reducible refine EqE.idS ?_); (refine EqE.fP ?_; (conv => whnf); fail_if_success (show ae _ _))) | refine Cd.ol ?_)
 refine congrArg dyD ?_
 rw [o9, Int.mul_one]
theorem ah9 {x y : D} {p q : Dyadic} (hx : DyR x p) (hy : DyR y q) (hpq : Ht 1048576 (p - q)) : Sim Tryz.prog G0 true 194 [x, y] (.bool (decide (p = q))) := by
 have kx := hx
 have ky := hy
 obtain ⟨b, l, e, hl, h1, h2, hq⟩ := hx
 obtain ⟨c, k, f, hk, h3, h4, hr⟩ := hy
 generalize dof (zv b l) e = p at *
 generalize dof (zv c k) f = q at *
 refine ao af Tryz.func194 ?_
 repeat' ((conv => whnf); first | with_reducible refine ag.data ?_ | refine aa.mk _ _ (jw kx ky hpq) ?_ | refine rgE ?_ | refine Cd.mk rfl ?_ | (refine TkE.fL ?_; (conv => whnf); fail_if_success (show ae _ _)) | refine Res.mk ?_)
 show D.bool _ = D.bool (decide (dsg (p - q) = 0))
 congr 1
 refine decide_eq_decide.2 ?_
 rw [jj]; grind
theorem afx {x : D} {p : Dyadic} (hx : DyR x p) : Sim Tryz.prog G0 true 212 [x] (.int .i64 (db p)) := by
 obtain ⟨hp1, hp2, hp3⟩ := hx.parts
 have kx := hx
 have hp := DyR.of hx.ht
 obtain ⟨b, l, e, hl, h1, h2, _⟩ := hx
 generalize dof (zv b l) e = p at *
 have e1 := hp1.len (k := 65536) (by decide)
 have e2 : nb (nv (ofN (ak p).natAbs)) ≤ 2097152 := by rw [aw]; exact hp1.nb
 refine ao af Tryz.func212 ?_
 repeat' ((conv => whnf); first | with_reducible refine ag.data ?_ | refine aa.mk _ _ (pe kx) ?_ | refine aa.mk _ _ (gi hp) ?_ | refine aa.mk _ _ (afm _ (by omega)) ?_ | refine rgE ?_ | refine Cd.mk rfl ?_ | with_reducible refine Br.dec (fun _ => ?_) (fun _ => ?_) | refine ah.mk _ rfl ?_ | (refine TkE.fL ?_; (conv => whnf); fail_if_success (show ae _ _)) | refine Res.mk ?_ | ((with_reducible refine EqE.idW ?_); refine EqE.mk _ (aj (by omega) (by omega)) ?_) | ((with_reducible refine EqE.idS ?_); (refine EqE.fP ?_; (conv => whnf); fail_if_success (show ae _ _))) | refine Cd.ol ?_)
 ·rename_i h
  show D.int _ _ = D.int _ _
  rw [jj.1 h]; rfl
 ·rename_i h
  show D.int _ _ = D.int _ _
  rw [aw]; unfold db
  rw [if_neg (fun e => h (jj.2 (fh.1 e)))]
theorem awf {x y : D} {p q : Dyadic} (hx : DyR x p) (hy : DyR y q) (hpq : Ht 1048576 (p - q)) : Sim Tryz.prog G0 false 123 [x, y] (dyD (if p ≤ q then p else q)) := by
 have kx := hx
 have ky := hy
 obtain ⟨b, l, e, hl, h1, h2, hq⟩ := hx
 obtain ⟨c, k, f, hk, h3, h4, hr⟩ := hy
 generalize dof (zv b l) e = p at *
 generalize dof (zv c k) f = q at *
 refine ao af Tryz.func123 ?_
 repeat' ((conv => whnf); first | with_reducible refine ag.data ?_ | refine aa.mk _ _ (jw kx ky hpq) ?_ | refine aa.mk _ _ (pe kx) ?_ | refine aa.mk _ _ (pe ky) ?_ | refine rgE ?_ | refine Cd.mk rfl ?_ | with_reducible refine Br.dec (fun _ => ?_) (fun _ => ?_) | (refine TkE.fL ?_; (conv => whnf); fail_if_success (show ae _ _)) | refine Res.mk ?_ | ((with_reducible refine EqE.idS ?_); (refine EqE.fP ?_; (conv => whnf); fail_if_success (show ae _ _))) | refine Cd.ol ?_)
 ·rename_i h
  show dyD _ = dyD p
  rw [if_pos (by rw [afw] at h; grind)]
 ·rename_i h
  show dyD _ = dyD q
  rw [if_neg (by rw [afw] at h; grind)]
theorem awe {x y : D} {p q : Dyadic} (hx : DyR x p) (hy : DyR y q) (hpq : Ht 1048576 (p - q)) : Sim Tryz.prog G0 false 124 [x, y] (dyD (if q ≤ p then p else q)) := by
 have kx := hx
 have ky := hy
 obtain ⟨b, l, e, hl, h1, h2, hq⟩ := hx
 obtain ⟨c, k, f, hk, h3, h4, hr⟩ := hy
 generalize dof (zv b l) e = p at *
 generalize dof (zv c k) f = q at *
 refine ao af Tryz.func124 ?_
 repeat' ((conv => whnf); first | with_reducible refine ag.data ?_ | refine aa.mk _ _ (jw kx ky hpq) ?_ | refine aa.mk _ _ (pe kx) ?_ | refine aa.mk _ _ (pe ky) ?_ | refine rgE ?_ | refine Cd.mk rfl ?_ | with_reducible refine Br.dec (fun _ => ?_) (fun _ => ?_) | (refine TkE.fL ?_; (conv => whnf); fail_if_success (show ae _ _)) | refine Res.mk ?_ | ((with_reducible refine EqE.idS ?_); (refine EqE.fP ?_; (conv => whnf); fail_if_success (show ae _ _))) | refine Cd.ol ?_)
 ·rename_i h
  show dyD _ = dyD p
  rw [if_pos (by rw [afv] at h; grind)]
 ·rename_i h
  show dyD _ = dyD q
  rw [if_neg (by rw [afv] at h; grind)]
end Go.Ev.Ar
