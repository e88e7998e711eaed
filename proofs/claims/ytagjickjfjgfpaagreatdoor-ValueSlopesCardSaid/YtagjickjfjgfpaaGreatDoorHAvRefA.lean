/- Contracts of the given functions, on data. Conditions stand in each theorem. -/
import Derived.Test.YtagjickjfjgfpaaGreatDoorHEvR
import Derived.Test.YtagjickjfjgfpaaGreatDoorHAvNatD
set_option linter.unusedSimpArgs false
set_option linter.unusedVariables false
namespace Go.Ev.Ar
open Go Go.Ev Go.Proofs
theorem jg (l : List UInt32) (hl : l.length < 2^40) : Sim Tryz.prog G0 false 141 [sl l] (sl (ofN (nv l))) := by
 refine ao af Tryz.func141 ?_
 repeat' ((conv => whnf); first | refine rgE ?_)
 refine ⟨[], [0, 3], [], fun m xs h => m ≤ l.length ∧ nv (l.take m) = nv l ∧ ∃ i : Int, i = m ∧ xs = [.d (sl l), .d (.int .i64 i)] ∧ h = [],
  ⟨_, _, _, ⟨.inl rfl, rfl, rfl, by first | rfl | (repeat first | exact all_nil _ | refine bm _ _ _ _ _ ?_)⟩, Nat.le_refl _, by rw [List.take_length], _, rfl, rfl, rfl⟩, ?_⟩
 rintro m xs h ⟨hm, hv, i, hi, rfl, rfl⟩
 repeat' ((conv => whnf); first | refine rgE ?_ | refine Cd.mk rfl ?_ | refine Br.t ?_ | refine Br.f ?_ | with_reducible refine Br.dec (fun _ => ?_) (fun _ => ?_) | refine ah.mk _ (dw _ _ (by omega)) ?_ | refine Res.mk ?_ | refine an.cu _ _ ?_ | ((with_reducible refine EqE.idW ?_); with_reducible refine EqE.mk _ (aj (by omega) (by omega)) ?_) | ((with_reducible refine EqE.idL ?_); refine EqE.mk _ (ahf _ _ _ (by omega) (by omega) (by omega)) ?_) | refine Cd.om ?_)
 ·rename_i h0 h1
  have e : (i - 1).toNat = m - 1 := by omega
  rw [e] at h1
  refine ⟨m - 1, ⟨by omega, ?_, _, ?_, rfl, rfl⟩, by omega⟩
  ·have := ay l (m - 1)
   rw [show m - 1 + 1 = m by omega, hv, show (l.getD (m - 1) 0).toNat = 0 by omega] at this
   omega
  ·omega
 ·rename_i h0 h1
  have e : (i - 1).toNat = m - 1 := by omega
  rw [e] at h1
  show sl _ = sl _
  rw [show (i - 0).toNat = m by omega, Int.toNat_zero, List.drop_zero, ← hv, aku (.inr ?_)]
  rw [List.length_take, Nat.min_eq_left hm]
  have : (l.take m).getD (m - 1) 0 = l.getD (m - 1) 0 := by
   simp only [List.getD_eq_getElem?_getD, List.getElem?_take]
   rw [if_pos (by omega)]
  rw [this]; omega
 ·rename_i h0
  show sl _ = sl _
  rw [show (i - 0).toNat = 0 by omega, Int.toNat_zero, List.drop_zero, ← hv, show m = 0 by omega]
  exact congrArg sl bh
theorem ak3 (l : List UInt32) (i : Nat) : Sim Tryz.prog G0 true 143 [sl l, .int .i64 i] (.int .u64 (at_ l i)) := by
 refine ao af Tryz.func143 ?_
 repeat' ((conv => whnf); first | refine rgE ?_ | refine Cd.mk rfl ?_ | with_reducible refine Br.dec (fun _ => ?_) (fun _ => ?_) | refine ah.mk _ (ib _ _ (by omega)) ?_ | refine Res.mk ?_ | ((with_reducible refine EqE.idW ?_); with_reducible refine EqE.mk _ (cj _) ?_) | refine Cd.om ?_)
 ·show D.int _ _ = D.int _ _; rw [gg]
 ·show D.int _ _ = D.int _ _; rw [gg, oh (by omega)]; rfl
theorem aus (a b : List UInt32) (ha : a.length < 2^40) (hb : b.length < 2^40) : Sim Tryz.prog G0 true 196 [sl a, sl b] (.bool (decide (a = b))) := by
 refine ao af Tryz.func196 ?_
 repeat' ((conv => whnf); first | refine rgE ?_ | refine Cd.mk rfl ?_ | with_reducible refine Br.ac1 (fun _ => ?_) (fun _ => ?_) | refine Res.mk ?_)
 ·show D.bool _ = D.bool _
  rw [decide_eq_false]; intro e; subst e; omega
 rename_i h0
 skip
 refine ⟨[], [0, 1, 5], [], fun m xs h => ∃ i : Nat, m = a.length - i ∧ i ≤ a.length ∧ a.take i = b.take i ∧ xs = [.d (sl a), .d (sl b), .d (.int .i64 i)] ∧ h = [],
  ⟨_, _, _, ⟨.inl rfl, rfl, rfl, by first | rfl | (repeat first | exact all_nil _ | refine bm _ _ _ _ _ ?_)⟩, 0, rfl, by omega, rfl, rfl, rfl⟩, ?_⟩
 rintro m xs h ⟨i, rfl, hi, hv, rfl, rfl⟩
 repeat' ((conv => whnf); first | refine rgE ?_ | refine Cd.mk rfl ?_ | with_reducible refine Br.dec (fun _ => ?_) (fun _ => ?_) | with_reducible refine Br.ac1 (fun _ => ?_) (fun _ => ?_) | refine ah.mk _ (ib _ _ (by omega)) ?_ | refine Res.mk ?_ | refine an.cu _ _ ?_ | ((with_reducible refine EqE.idW ?_); with_reducible refine EqE.mk _ (ax _ (by omega)) ?_) | refine Cd.om ?_)
 ·rename_i h1 h2
  show D.bool _ = D.bool _
  rw [decide_eq_false]; intro e; subst e; exact h2 rfl
 ·rename_i h1 h2
  refine ⟨_, ⟨i + 1, rfl, by omega, ?_, rfl, rfl⟩, by omega⟩
  have ha' : i < a.length := by omega
  have hb' : i < b.length := by omega
  have h3 : a.getD i 0 = b.getD i 0 := UInt32.toNat_inj.1 (by omega)
  have h4 : a[i] = b[i] := by simpa [ha', hb'] using h3
  rw [List.take_succ_eq_append_getElem ha', List.take_succ_eq_append_getElem hb', hv, h4]
 ·rename_i h1
  show D.bool _ = D.bool _
  rw [List.take_of_length_le (by omega), List.take_of_length_le (by omega)] at hv
  rw [decide_eq_true hv]
theorem ayd (a b : List UInt32) (ha : a.length < 2^30) (hb : b.length < 2^30) : Sim Tryz.prog G0 false 169 [sl a, sl b] (sl (ofN (nv a + nv b))) := by
 refine ao af Tryz.func169 ?_
 repeat' ((conv => whnf); first | refine rgE ?_ | refine Cd.mk rfl ?_ | ((with_reducible refine EqE.idW ?_); with_reducible refine EqE.mk _ (ax _ (by omega)) ?_) | ((with_reducible refine EqE.idI ?_); with_reducible refine EqE.mk _ (ako _ _) ?_) | ((with_reducible refine EqE.idR ?_); refine EqE.mk _ (ns _) ?_) | refine Cd.om ?_)
 refine ⟨[], [0,1,5,6,7,8], [16], fun m xs h => ∃ (n i c : Nat) (l : List UInt32), m = n - i ∧ n = max a.length b.length + 1 ∧ i ≤ n ∧ c ≤ 1 ∧ l.length = n ∧ nv l + Pw i * c = nv (a.take i) + nv (b.take i) ∧ (∀ j, i ≤ j → (l.getD j 0).toNat = 0) ∧
  xs = [.d (sl a), .d (sl b), .d (.int .i64 n), .own 16 0 n 1, .d (.int .u64 c), .d (.int .i64 i)] ∧ h = [(16, false, la l)],
  ⟨_, _, _, ⟨.inl rfl, rfl, rfl, by first | rfl | (repeat first | exact all_nil _ | refine bm _ _ _ _ _ ?_)⟩, _, 0, 0, _, rfl, rfl, by omega, by omega, by simp, by simp [bo], fun j _ => iy _ _, rfl, rfl⟩, ?_⟩
 rintro m xs h ⟨n, i, c, l, rfl, hn, hi, hc, hl, hv, hz, rfl, rfl⟩
 have hxa := oz a i
 have hxb := oz b i
 repeat' ((conv => whnf); first | with_reducible refine ag.data ?_ | refine aa.mk _ _ (ak3 _ _) ?_ | refine aa.mk _ _ (jg _ (by omega)) ?_ | refine rgE ?_ | refine Cd.mk rfl ?_ | with_reducible refine Br.dec (fun _ => ?_) (fun _ => ?_) | refine Res.mk ?_ | refine DsE.mk (bj _) rfl ?_ | refine an.cu _ _ ?_ | ((with_reducible refine EqE.idW ?_); first | with_reducible refine EqE.mk _ (agj _ _ (by omega)) ?_ | with_reducible refine EqE.mk _ (j8 _) ?_ | with_reducible refine EqE.mk _ (ax _ (by omega)) ?_) | ((with_reducible refine EqE.idF ?_); refine EqE.mk _ (l4 _ 4294967296 _ _ rfl) ?_) | ((with_reducible refine EqE.idS ?_); refine EqE.mk _ (ld _ _ _ _ (by first | with_reducible exact cp _ | with_reducible exact bw _ | exact cp _ | exact bw _ | rfl) (by first | omega | (simp only [List.length_set]; omega)) (by omega)) ?_) | ((with_reducible refine EqE.idL ?_); refine EqE.mk _ (ox _ _ _ _ (by omega) (by omega) rfl) ?_) | refine Cd.om ?_)
 ·rename_i h0
  refine ⟨_, ⟨n, i + 1, (c + at_ a i + at_ b i) / 4294967296, _, rfl, hn, by omega, by omega, ?_, ?_, ?_, rfl, rfl⟩, by omega⟩
  ·simp [hl]
  ·have hz := hz i (Nat.le_refl _)
   rw [mo (by omega) hz (by omega), ay, ay, c5, Nat.add_assoc, lu, gg, gg, Nat.mul_add, Nat.mul_add]
   omega
  ·intro j hj
   rw [getD_set_ne (by omega)]; exact hz j (by omega)
 ·rename_i h0
  show sl _ = sl _
  have e : i = n := by omega
  have h1 := dc a
  have h2 := dc b
  have h3 := e8 (show a.length ≤ n - 1 by omega)
  have h4 := e8 (show b.length ≤ n - 1 by omega)
  have h5 := c5 (n - 1)
  rw [show n - 1 + 1 = n by omega] at h5
  rw [List.take_of_length_le (by omega), List.take_of_length_le (by omega), e] at hv
  have : c = 0 := by
   rcases (show c = 0 ∨ c = 1 by omega) with h | h
   ·exact h
   ·subst h; omega
  subst this
  rw [← hv]; rfl
end Go.Ev.Ar

namespace Go.Ev.Ar
open Go Go.Ev Go.Proofs
theorem ayf (a b : List UInt32) (ha : a.length < 2^32) (hb : b.length < 2^32) : Sim Tryz.prog G0 true 199 [sl a, sl b] (.int .i64 (u5 (nv a) (nv b))) := by
 refine ao af Tryz.func199 ?_
 have h1 := cb a
 have h2 := cb b
 repeat' ((conv => whnf); first | with_reducible refine ag.data ?_ | refine aa.mk _ _ (jg _ (by omega)) ?_ | refine rgE ?_ | refine Cd.mk rfl ?_ | with_reducible refine Br.dec (fun _ => ?_) (fun _ => ?_) | with_reducible refine Br.ac1 (fun _ => ?_) (fun _ => ?_) | refine Res.mk ?_ | ((with_reducible refine EqE.idW ?_); with_reducible refine EqE.mk _ (aj (by omega) (by omega)) ?_))
 ·rename_i h3 h4
  show D.int _ _ = D.int _ _
  rw [mc (q7 (by omega))]
 ·rename_i h3 h4
  show D.int _ _ = D.int _ _
  rw [aa2 (q7 (by omega))]
 rename_i h3
 skip
 refine ⟨[], [5, 6, 7], [], fun m xs h => m ≤ (ofN (nv a)).length ∧ nv ((ofN (nv a)).drop m) = nv ((ofN (nv b)).drop m) ∧ ∃ i : Int, i = m - 1 ∧ xs = [.d (sl (ofN (nv a))), .d (sl (ofN (nv b))), .d (.int .i64 i)] ∧ h = [],
  ⟨_, _, _, ⟨.inl rfl, rfl, rfl, by first | rfl | (repeat first | exact all_nil _ | refine bm _ _ _ _ _ ?_)⟩, Nat.le_refl _, ?_, _, rfl, rfl, rfl⟩, ?_⟩
 ·rw [List.drop_eq_nil_of_le (Nat.le_refl _), List.drop_eq_nil_of_le (by omega)]
 rintro m xs h ⟨hm, hv, i, hi, rfl, rfl⟩
 repeat' ((conv => whnf); first | refine rgE ?_ | refine Cd.mk rfl ?_ | with_reducible refine Br.dec (fun _ => ?_) (fun _ => ?_) | refine ah.mk _ (dw _ _ (by omega)) ?_ | refine Res.mk ?_ | refine an.cu _ _ ?_ | ((with_reducible refine EqE.idW ?_); with_reducible refine EqE.mk _ (aj (by omega) (by omega)) ?_) | refine Cd.om ?_)
 ·rename_i h4 h5
  have e : i.toNat = m - 1 := by omega
  rw [e] at h5
  show D.int _ _ = D.int _ _
  rw [mc]
  have h6 : nv ((ofN (nv a)).drop (m - 1)) < nv ((ofN (nv b)).drop (m - 1)) := by
   rw [jo (ofN (nv a)) (m - 1) (by omega), jo (ofN (nv b)) (m - 1) (by omega), show m - 1 + 1 = m by omega, hv]; omega
  simpa using vo _ h6
 ·rename_i h4 h6 h5
  have e : i.toNat = m - 1 := by omega
  rw [e] at h5
  show D.int _ _ = D.int _ _
  rw [aa2]
  have h6 : nv ((ofN (nv b)).drop (m - 1)) < nv ((ofN (nv a)).drop (m - 1)) := by
   rw [jo (ofN (nv a)) (m - 1) (by omega), jo (ofN (nv b)) (m - 1) (by omega), show m - 1 + 1 = m by omega, hv]; omega
  simpa using vo _ h6
 ·rename_i h4 h6 h5
  have e : i.toNat = m - 1 := by omega
  rw [e] at h5 h6
  refine ⟨m - 1, ⟨by omega, ?_, _, ?_, rfl, rfl⟩, by omega⟩
  ·rw [jo (ofN (nv a)) (m - 1) (by omega), jo (ofN (nv b)) (m - 1) (by omega), show m - 1 + 1 = m by omega, hv]; omega
  ·omega
 ·rename_i h4
  have e : m = 0 := by omega
  subst e
  show D.int _ _ = D.int _ _
  rw [ajy]
  simpa using hv
theorem ayu (a b : List UInt32) (ha : a.length < 2^30) (hb : b.length < 2^30) : Sim Tryz.prog G0 false 170 [sl a, sl b] (.tup [sl (ofN (nv a - nv b)), .bool (decide (nv b ≤ nv a))]) := by
 refine ao af Tryz.func170 ?_
 repeat' ((conv => whnf); first | with_reducible refine ag.data ?_ | refine aa.mk _ _ (ayf _ _ (by omega) (by omega)) ?_ | refine rgE ?_ | refine Cd.mk rfl ?_ | with_reducible refine Br.dec (fun _ => ?_) (fun _ => ?_) | refine Res.mk ?_ | ((with_reducible refine EqE.idR ?_); refine EqE.mk _ (ns _) ?_) | refine Cd.om ?_)
 ·rename_i h
  have h : nv a < nv b := by unfold u5 at h; split at h <;> first | assumption | (split at h <;> simp at h)
  show D.tup _ = D.tup _
  rw [show nv a - nv b = 0 by omega, bh, decide_eq_false (by omega)]; rfl
 rename_i h
 have h : nv b ≤ nv a := by unfold u5 at h; split at h <;> first | (simp at h; done) | omega
 skip
 refine ⟨[], [0,1,6,7,8], [16], fun m xs h => ∃ (n i c : Nat) (l : List UInt32), m = n - i ∧ n = a.length ∧ i ≤ n ∧ c ≤ 1 ∧ l.length = n ∧ nv l + nv (b.take i) = nv (a.take i) + Pw i * c ∧ (∀ j, i ≤ j → (l.getD j 0).toNat = 0) ∧
  xs = [.d (sl a), .d (sl b), .own 16 0 n 1, .d (.int .u64 c), .d (.int .i64 i)] ∧ h = [(16, false, la l)],
  ⟨_, _, _, ⟨.inl rfl, rfl, rfl, by first | rfl | (repeat first | exact all_nil _ | refine bm _ _ _ _ _ ?_)⟩, _, 0, 0, _, rfl, rfl, by omega, by omega, by simp, by simp [bo], fun j _ => iy _ _, rfl, rfl⟩, ?_⟩
 rintro m xs h ⟨n, i, c, l, rfl, hn, hi, hc, hl, hv, hz, rfl, rfl⟩
 have hxa := oz a i
 have hxb := oz b i
 repeat' ((conv => whnf); first | with_reducible refine ag.data ?_ | refine aa.mk _ _ (ak3 _ _) ?_ | refine aa.mk _ _ (jg _ (by omega)) ?_ | refine rgE ?_ | refine Cd.mk rfl ?_ | with_reducible refine Br.dec (fun _ => ?_) (fun _ => ?_) | refine Res.mk ?_ | refine DsE.mk (bj _) rfl ?_ | refine an.cu _ _ ?_ | ((with_reducible refine EqE.idW ?_); first | with_reducible refine EqE.mk _ (aiv _ _ (by omega) (by omega)) ?_ | with_reducible refine EqE.mk _ (j8 _) ?_ | with_reducible refine EqE.mk _ (ax _ (by omega)) ?_) | ((with_reducible refine EqE.idF ?_); with_reducible refine EqE.mk _ (a01 _) ?_) | ((with_reducible refine EqE.idS ?_); refine EqE.mk _ (ld _ _ _ _ (by first | with_reducible exact cp _ | with_reducible exact bw _ | exact cp _ | exact bw _ | rfl) (by first | omega | (simp only [List.length_set]; omega)) (by omega)) ?_) | ((with_reducible refine EqE.idL ?_); refine EqE.mk _ (ox _ _ _ _ (by omega) (by omega) rfl) ?_) | refine Cd.om ?_)
 ·rename_i h0
  refine ⟨_, ⟨n, i + 1, _, _, rfl, hn, by omega, ?_, ?_, ?_, ?_, rfl, rfl⟩, by omega⟩
  ·omega
  ·simp [hl]
  ·have hz := hz i (Nat.le_refl _)
   rw [gg] at hxa hxb
   have := aho (p := Pw i) hxa hxb hc rfl
   rw [mo (by omega) hz (by omega), ay, ay, c5, gg, gg]
   omega
  ·intro j hj
   rw [getD_set_ne (by omega)]; exact hz j (by omega)
 ·rename_i h0
  rw [decide_eq_true h]
  show D.tup [sl _, .bool true] = D.tup [sl _, .bool true]
  have e : i = n := by omega
  have h1 := dc a
  have h2 := dc l
  rw [e, List.take_of_length_le (l := a) (by omega), xp, Nat.mod_eq_of_lt (by rw [hn]; omega)] at hv
  rw [hl] at h2
  rw [← hn] at h1
  have : c = 0 := by
   rcases (show c = 0 ∨ c = 1 by omega) with h | h
   ·exact h
   ·subst h; omega
  subst this
  rw [show nv a - nv b = nv l by omega]
end Go.Ev.Ar

namespace Go.Ev.Ar
open Go Go.Ev Go.Proofs
set_option maxHeartbeats 1000000 in
theorem ayl (A B : List UInt32) (ha : A.length < 2^30) (hb : B.length < 2^30) : Sim Tryz.prog G0 false 168 [sl A, sl B] (sl (ofN (nv A * nv B))) := by
 refine ao af Tryz.func168 ?_
 repeat' ((conv => whnf); first | refine rgE ?_ | refine Cd.mk rfl ?_ | ((with_reducible refine EqE.idW ?_); first | with_reducible refine EqE.mk _ (qx _ (by omega)) ?_ | with_reducible refine EqE.mk _ (ax _ (by omega)) ?_) | ((with_reducible refine EqE.idR ?_); refine EqE.mk _ (ns _) ?_) | refine Cd.om ?_)
 refine ⟨[], [0,1,5,6], [15], fun m xs h => ∃ (n i : Nat) (l : List UInt32), m = A.length - i ∧ n = A.length + B.length + 1 ∧ i ≤ A.length ∧ l.length = n ∧ nv l = nv (A.take i) * nv B ∧ (∀ j, i + B.length ≤ j → (l.getD j 0).toNat = 0) ∧
  xs = [.d (sl A), .d (sl B), .own 15 0 n 1, .d (.int .i64 i)] ∧ h = [(15, false, la l)],
  ⟨_, _, _, ⟨.inl rfl, rfl, rfl, by first | rfl | (repeat first | exact all_nil _ | refine bm _ _ _ _ _ ?_)⟩, _, 0, _, rfl, rfl, by omega, List.length_replicate, by simp [bo], fun j _ => iy _ _, rfl, rfl⟩, ?_⟩
 rintro m xs h ⟨n, i, l, rfl, hn, hi, hl, hv, hz, rfl, rfl⟩
 repeat' ((conv => whnf); first | with_reducible refine ag.data ?_ | refine aa.mk _ _ (jg _ (by omega)) ?_ | refine rgE ?_ | refine Cd.mk rfl ?_ | with_reducible refine Br.dec (fun _ => ?_) (fun _ => ?_) | refine Res.mk ?_ | refine DsE.mk (bj _) rfl ?_ | ((with_reducible refine EqE.idL ?_); refine EqE.mk _ (ox _ _ _ _ (by omega) (by omega) rfl) ?_))
 ·rename_i h0
  have hx := bd (A.getD i 0)
  refine ⟨[], [0,1,5,6,7,8], [15], fun m xs h => ∃ (k c : Nat) (l : List UInt32), m = B.length - k ∧ k ≤ B.length ∧ c < 4294967296 ∧ l.length = n ∧ nv l + Pw (i + k) * c = nv (A.take i) * nv B + Pw i * ((A.getD i 0).toNat * nv (B.take k)) ∧ (∀ j, i + B.length ≤ j → (l.getD j 0).toNat = 0) ∧
   xs = [.d (sl A), .d (sl B), .own 15 0 n 1, .d (.int .i64 i), .d (.int .u64 c), .d (.int .i64 k)] ∧ h = [(15, false, la l)],
   ⟨_, _, _, ⟨.inl rfl, rfl, rfl, by first | rfl | (repeat first | exact all_nil _ | refine bm _ _ _ _ _ ?_)⟩, 0, 0, _, rfl, by omega, by omega, hl, by simp [hv], hz, rfl, rfl⟩, ?_⟩
  rintro m xs h ⟨k, c, l, rfl, hk, hc, hl, hv, hz, rfl, rfl⟩
  have ho := bd (l.getD (i + k) 0)
  have hy := bd (B.getD k 0)
  have hxy : (A.getD i 0).toNat * (B.getD k 0).toNat ≤ 4294967295 * 4294967295 := Nat.mul_le_mul (by omega) (by omega)
  repeat' ((conv => whnf); first | refine rgE ?_ | refine Cd.mk rfl ?_ | with_reducible refine Br.dec (fun _ => ?_) (fun _ => ?_) | refine ah.mk _ (ib _ _ (by omega)) ?_ | refine ah.mk _ (agd _ _ _ (by first | with_reducible exact cp _ | with_reducible exact bw _ | exact cp _ | exact bw _ | rfl) (by first | omega | (simp only [List.length_set]; omega))) ?_ | refine an.cu _ _ ?_ | ((with_reducible refine EqE.idW ?_); first | with_reducible refine EqE.mk _ (cj _) ?_ | with_reducible refine EqE.mk _ (agj _ _ (by omega)) ?_ | with_reducible refine EqE.mk _ (ar4 _ _ (by omega)) ?_ | with_reducible refine EqE.mk _ (j8 _) ?_ | with_reducible refine EqE.mk _ (qx _ (by omega)) ?_ | with_reducible refine EqE.mk _ (ax _ (by omega)) ?_) | ((with_reducible refine EqE.idF ?_); refine EqE.mk _ (l4 _ 4294967296 _ _ rfl) ?_) | ((with_reducible refine EqE.idS ?_); refine EqE.mk _ (ld _ _ _ _ (by first | with_reducible exact cp _ | with_reducible exact bw _ | exact cp _ | exact bw _ | rfl) (by first | omega | (simp only [List.length_set]; omega)) (by omega)) ?_) | refine Cd.om ?_)
  ·rename_i h3
   refine ⟨_, ⟨k + 1, _, _, rfl, by omega, ?_, ?_, ?_, ?_, rfl, rfl⟩, by omega⟩
   ·omega
   ·simp [hl]
   ·have h4 := agq l (i + k) (UInt32.ofNat ((c + (A.getD i 0).toNat * (B.getD k 0).toNat + (l.getD (i + k) 0).toNat) % 4294967296)) (by omega)
    rw [toNat_ofNat (by omega)] at h4
    have h5 := lu (Pw (i + k)) (c + (A.getD i 0).toNat * (B.getD k 0).toNat + (l.getD (i + k) 0).toNat)
    rw [ay, show i + (k + 1) = i + k + 1 from rfl, c5]
    generalize (B.getD k 0).toNat = y at *
    generalize (A.getD i 0).toNat = x at *
    have h6 : Pw i * (x * (nv (B.take k) + Pw k * y)) = Pw i * (x * nv (B.take k)) + Pw (i + k) * (x * y) := by
     rw [w5]; grind
    rw [h6]
    rw [Nat.mul_add, Nat.mul_add] at h5
    omega
   ·intro j hj
    rw [getD_set_ne (by omega)]; exact hz j hj
  ·rename_i h3
   have e : k = B.length := by omega
   subst e
   refine ⟨_, ⟨n, i + 1, _, rfl, hn, by omega, ?_, ?_, ?_, rfl, rfl⟩, by omega⟩
   ·simp [hl]
   ·rw [mo (by omega) (hz _ (by omega)) (by omega), ay]
    rw [List.take_of_length_le (Nat.le_refl _)] at hv
    rw [Nat.mod_eq_of_lt hc, hv]
    grind
   ·intro j hj
    rw [getD_set_ne (by omega)]; exact hz j (by omega)
 ·rename_i h0
  show sl _ = sl _
  rw [List.take_of_length_le (by omega)] at hv
  rw [hv]
end Go.Ev.Ar

namespace Go.Ev.Ar
open Go Go.Ev Go.Proofs
theorem aye (l : List UInt32) (i : Nat) (hl : l.length < 2^32) (hi : i < 2^40) : Sim Tryz.prog G0 true 142 [sl l, .int .i64 i] (.bool ((nv l).testBit i)) := by
 refine ao af Tryz.func142 ?_
 have hx := bd (l.getD (i / 32) 0)
 have hx2 := Nat.div_le_self (l.getD (i / 32) 0).toNat (2 ^ (i % 32))
 repeat' ((conv => whnf); first | refine rgE ?_ | refine Cd.mk rfl ?_ | refine Br.t ?_ | refine Br.f ?_ | with_reducible refine Br.dec (fun _ => ?_) (fun _ => ?_) | refine ah.mk _ (ib _ _ (by omega)) ?_ | refine Res.mk ?_ | ((with_reducible refine EqE.idW ?_); first | with_reducible refine EqE.mk _ (y0 _ (by omega)) ?_ | refine EqE.mk _ (agk _ 32 (by omega)) ?_ | with_reducible refine EqE.mk _ (amw _ (by omega)) ?_) | ((with_reducible refine EqE.idF ?_); with_reducible refine EqE.mk _ (axi _ _ (by omega)) ?_) | ((with_reducible refine EqE.idM ?_); refine EqE.mk _ (ad0 _ 32) ?_) | refine Cd.om ?_)
 ·rename_i h0
  show D.bool _ = D.bool _
  rw [ahl]
  congr 1
  rw [Bool.eq_iff_iff, decide_eq_true_iff, decide_eq_true_iff]; omega
 ·rename_i h0
  show D.bool _ = D.bool _
  rw [ahl, oh (by omega)]
  simp
end Go.Ev.Ar

namespace Go.Ev.Ar
open Go Go.Ev Go.Proofs
set_option maxHeartbeats 1000000 in
theorem ayt (a : List UInt32) (n : Int) (ha : a.length < 2^30) (hn : n ≤ 100000) : Sim Tryz.prog G0 false 171 [sl a, .int .i64 n] (sl (ofN (nv a * 2 ^ n.toNat))) := by
 refine ao af Tryz.func171 ?_
 have hN : n.toNat ≤ 100000 := by omega
 have hs : n.toNat % 32 < 32 := Nat.mod_lt _ (by decide)
 repeat' ((conv => whnf); first | refine rgE ?_ | refine Cd.mk rfl ?_ | ((with_reducible refine EqE.idW ?_); first | refine EqE.mk _ (agk _ 32 (by omega)) ?_ | with_reducible refine EqE.mk _ (qx _ (by omega)) ?_ | with_reducible refine EqE.mk _ (ax _ (by omega)) ?_) | ((with_reducible refine EqE.idI ?_); first | refine EqE.mk _ (a19 _ hn) ?_ | refine EqE.mk _ (min_eq _ _) ?_) | ((with_reducible refine EqE.idR ?_); refine EqE.mk _ (ns _) ?_) | refine Cd.om ?_)
 generalize n.toNat = N at *
 refine ⟨[], [0,5,6,7], [18], fun m xs h => ∃ (n i : Nat) (l : List UInt32), m = a.length - i ∧ n = a.length + N / 32 + 1 ∧ i ≤ a.length ∧ l.length = n ∧ nv l = Pw (N / 32) * (nv (a.take i) * 2 ^ (N % 32)) ∧ (∀ j, i + N / 32 + 1 ≤ j → (l.getD j 0).toNat = 0) ∧ (l.getD (i + N / 32) 0).toNat < 2 ^ (N % 32) ∧
  xs = [.d (sl a), .d (.int .i64 N), .own 18 0 n 1, .d (.int .i64 i)] ∧ h = [(18, false, la l)],
  ⟨_, _, _, ⟨.inl rfl, rfl, rfl, by first | rfl | (repeat first | exact all_nil _ | refine bm _ _ _ _ _ ?_)⟩, _, 0, _, rfl, rfl, by omega, List.length_replicate, by simp [bo], fun j _ => iy _ _, by rw [iy]; exact Nat.two_pow_pos _, rfl, rfl⟩, ?_⟩
 rintro m xs h ⟨n, i, l, rfl, hnn, hi, hl, hv, hz, ho, rfl, rfl⟩
 have hx := bd (a.getD i 0)
 have ho2 := bd (l.getD (i + N / 32) 0)
 have hy := ahd hx hs
 have hb := aos (x := (a.getD i 0).toNat) hs ho
 repeat' ((conv => whnf); first | with_reducible refine ag.data ?_ | refine aa.mk _ _ (jg _ (by omega)) ?_ | refine rgE ?_ | refine Cd.mk rfl ?_ | with_reducible refine Br.dec (fun _ => ?_) (fun _ => ?_) | refine ah.mk _ (ib _ _ (by omega)) ?_ | refine ah.mk _ (agd _ _ _ (by first | with_reducible exact cp _ | with_reducible exact bw _ | exact cp _ | exact bw _ | rfl) (by first | omega | (simp only [List.length_set]; omega))) ?_ | refine Res.mk ?_ | refine DsE.mk (bj _) rfl ?_ | refine an.cu _ _ ?_ | ((with_reducible refine EqE.idW ?_); first | with_reducible refine EqE.mk _ (a00 _ _ _ hs ho ho2) ?_ | with_reducible refine EqE.mk _ (cj _) ?_ | with_reducible refine EqE.mk _ (ar6 _ _ (by omega) (by omega)) ?_ | refine EqE.mk _ (agk _ 32 (by omega)) ?_ | with_reducible refine EqE.mk _ (j8 _) ?_ | with_reducible refine EqE.mk _ (amw _ (by omega)) ?_ | with_reducible refine EqE.mk _ (qx _ (by omega)) ?_ | with_reducible refine EqE.mk _ (ax _ (by omega)) ?_) | ((with_reducible refine EqE.idF ?_); refine EqE.mk _ (l4 _ 4294967296 _ _ rfl) ?_) | ((with_reducible refine EqE.idM ?_); refine EqE.mk _ (ad0 _ 32) ?_) | ((with_reducible refine EqE.idS ?_); refine EqE.mk _ (ld _ _ _ _ (by first | with_reducible exact cp _ | with_reducible exact bw _ | exact cp _ | exact bw _ | rfl) (by first | omega | (simp only [List.length_set]; omega)) (by omega)) ?_) | ((with_reducible refine EqE.idL ?_); refine EqE.mk _ (ox _ _ _ _ (by omega) (by omega) rfl) ?_) | refine Cd.om ?_)
 ·rename_i h0
  refine ⟨_, ⟨n, i + 1, _, rfl, hnn, by omega, ?_, ?_, ?_, ?_, rfl, rfl⟩, by omega⟩
  ·simp [hl]
  ·have h1 := agq l (i + N / 32) (UInt32.ofNat ((l.getD (i + N / 32) 0).toNat + (a.getD i 0).toNat * 2 ^ (N % 32) % 4294967296)) (by omega)
   rw [toNat_ofNat hb, Nat.mul_add] at h1
   rw [mo (by simp; omega) (by rw [getD_set_ne (by omega)]; exact hz _ (by omega)) (by omega), ay, Nat.mod_eq_of_lt (show (a.getD i 0).toNat * 2 ^ (N % 32) / 4294967296 < 4294967296 by omega), c5]
   have h5 := lu (Pw (i + N / 32)) ((a.getD i 0).toNat * 2 ^ (N % 32))
   have h6 : Pw (N / 32) * ((nv (a.take i) + Pw i * (a.getD i 0).toNat) * 2 ^ (N % 32)) = Pw (N / 32) * (nv (a.take i) * 2 ^ (N % 32)) + Pw (i + N / 32) * ((a.getD i 0).toNat * 2 ^ (N % 32)) := by
    rw [w5]; grind
   rw [h6]; omega
  ·intro j hj
   rw [getD_set_ne (by omega), getD_set_ne (by omega)]; exact hz j (by omega)
  ·rw [show i + 1 + N / 32 = i + N / 32 + 1 by omega]
   rw [n6 (by simp; omega), toNat_ofNat (by omega), Nat.mod_eq_of_lt (by omega)]
   exact adj hx hs
 ·rename_i h0
  show sl _ = sl _
  rw [List.take_of_length_le (by omega)] at hv
  rw [hv, show Pw (N / 32) * (nv a * 2 ^ (N % 32)) = nv a * (Pw (N / 32) * 2 ^ (N % 32)) by grind, w6, Nat.div_add_mod]
theorem anw (a : List UInt32) (n : Int) (ha : a.length < 2^30) (hn : n ≤ 100000) : Sim Tryz.prog G0 false 75 [sl a, .int .i64 n] (sl (ofN (nv a / 2 ^ n.toNat))) := by
 refine ao af Tryz.func75 ?_
 have hN : n.toNat ≤ 100000 := by omega
 have hs : n.toNat % 32 < 32 := Nat.mod_lt _ (by decide)
 repeat' ((conv => whnf); first | refine rgE ?_ | refine Cd.mk rfl ?_ | with_reducible refine Br.dec (fun _ => ?_) (fun _ => ?_) | refine Res.mk ?_ | ((with_reducible refine EqE.idW ?_); refine EqE.mk _ (agk _ 32 (by omega)) ?_) | ((with_reducible refine EqE.idI ?_); first | refine EqE.mk _ (a19 _ hn) ?_ | refine EqE.mk _ (min_eq _ _) ?_) | ((with_reducible refine EqE.idR ?_); refine EqE.mk _ (ns _) ?_) | ((with_reducible refine EqE.idL ?_); refine EqE.mk _ (auy _ _ (by omega)) ?_) | refine Cd.om ?_)
 ·rename_i h
  have h2 := dc a
  have : nv a < 2 ^ n.toNat := Nat.lt_of_lt_of_le h2 (by rw [nf]; exact Nat.pow_le_pow_right (by decide) (by omega))
  show sl _ = sl []
  rw [Nat.div_eq_of_lt this, bh]
 rename_i h
 generalize n.toNat = N at *
 skip
 generalize hM : a.drop (N / 32) = M at *
 refine ⟨[], [5,6,7,8], [23], fun m xs h => ∃ (n i : Nat) (l : List UInt32), m = n - i ∧ n = M.length ∧ i ≤ n ∧ l.length = n ∧ nv l = (nv M / 2 ^ (N % 32)) % Pw i ∧ (∀ j, i ≤ j → (l.getD j 0).toNat = 0) ∧
  xs = [.d (.int .i64 N), .d (sl M), .own 23 0 n 1, .d (.int .i64 i)] ∧ h = [(23, false, la l)],
  ⟨_, _, _, ⟨.inl rfl, rfl, rfl, by first | rfl | (repeat first | exact all_nil _ | refine bm _ _ _ _ _ ?_)⟩, _, 0, _, rfl, rfl, by omega, List.length_replicate, ?_, fun j _ => iy _ _, rfl, rfl⟩, ?_⟩
 ·rw [bo, aei, Nat.mod_one]
 rintro m xs h ⟨n, i, l, rfl, hnn, hi, hl, hv, hz, rfl, rfl⟩
 have hx1 := oz M (i : Int)
 have hx2 := oz M ((i + 1 : Nat) : Int)
 have hM2 : M.length ≤ a.length := by rw [← hM]; simp
 repeat' ((conv => whnf); first | with_reducible refine ag.data ?_ | refine aa.mk _ _ (ak3 _ _) ?_ | refine aa.mk _ _ (jg _ (by omega)) ?_ | refine rgE ?_ | refine Cd.mk rfl ?_ | with_reducible refine Br.dec (fun _ => ?_) (fun _ => ?_) | refine Res.mk ?_ | refine DsE.mk (bj _) rfl ?_ | refine an.cu _ _ ?_ | ((with_reducible refine EqE.idW ?_); first | with_reducible refine EqE.mk _ (abq _ (by omega)) ?_ | with_reducible refine EqE.mk _ (axh _ _ (by omega) (by omega)) ?_ | with_reducible refine EqE.mk _ (j8 _) ?_ | with_reducible refine EqE.mk _ (amw _ (by omega)) ?_ | with_reducible refine EqE.mk _ (ax _ (by omega)) ?_) | ((with_reducible refine EqE.idF ?_); with_reducible refine EqE.mk _ (acz _ _ (by omega)) ?_) | ((with_reducible refine EqE.idM ?_); refine EqE.mk _ (ad0 _ 32) ?_) | ((with_reducible refine EqE.idS ?_); refine EqE.mk _ (ld _ _ _ _ (by first | with_reducible exact cp _ | with_reducible exact bw _ | exact cp _ | exact bw _ | rfl) (by first | omega | (simp only [List.length_set]; omega)) (by omega)) ?_) | ((with_reducible refine EqE.idL ?_); refine EqE.mk _ (ox _ _ _ _ (by omega) (by omega) rfl) ?_) | refine Cd.om ?_)
 ·rename_i h0
  refine ⟨_, ⟨n, i + 1, _, rfl, hnn, by omega, ?_, ?_, ?_, rfl, rfl⟩, by omega⟩
  ·simp [hl]
  ·rw [am6 hx1, mo (by omega) (hz _ (by omega)) (by omega), gg, gg, afs (z := nv (M.drop (i + 1 + 1))) hs, ← gw, ← gw, hv, c5, Nat.mul_comm 4294967296, Nat.mod_mul,
    eb, Nat.div_div_eq_div_mul, Nat.div_div_eq_div_mul, Nat.mul_comm (2 ^ _)]
  ·intro j hj
   rw [getD_set_ne (by omega)]; exact hz j (by omega)
 ·rename_i h0
  have e : i = n := by omega
  have h2 := dc M
  have h3 := Nat.div_le_self (nv M) (2 ^ (N % 32))
  show sl _ = sl _
  rw [hv, e, hnn, Nat.mod_eq_of_lt (by omega), ← hM, eb, Nat.div_div_eq_div_mul, w6, Nat.div_add_mod]
end Go.Ev.Ar

namespace Go.Ev.Ar
open Go Go.Ev Go.Proofs
theorem ann (a : List UInt32) (ha : a.length < 2^30) (h0 : nv a ≠ 0) : Sim Tryz.prog G0 true 74 [sl a] (.int .i64 (tzn (nv a))) := by
 refine ao af Tryz.func74 ?_
 have h1 := cb a
 have h2 := dc a
 rw [nf] at h2
 have ht := adm h0 h2
 repeat' ((conv => whnf); first | with_reducible refine ag.data ?_ | refine aa.mk _ _ (jg _ (by omega)) ?_ | refine rgE ?_ | refine Cd.mk rfl ?_ | with_reducible refine Br.dec (fun _ => ?_) (fun _ => ?_) | refine Res.mk ?_)
 ·rename_i h
  exact absurd (bp.1 (show (ofN (nv a)).length = 0 by omega)) h0
 skip
 refine ⟨[], [3, 4], [], fun m xs h => ∃ i : Nat, m = tzn (nv a) - i ∧ i ≤ tzn (nv a) ∧ xs = [.d (sl (ofN (nv a))), .d (.int .i64 i)] ∧ h = [],
  ⟨_, _, _, ⟨.inl rfl, rfl, rfl, by first | rfl | (repeat first | exact all_nil _ | refine bm _ _ _ _ _ ?_)⟩, 0, rfl, by omega, rfl, rfl⟩, ?_⟩
 rintro m xs h ⟨i, rfl, hi, rfl, rfl⟩
 repeat' ((conv => whnf); first | with_reducible refine ag.data ?_ | refine aa.mk _ _ (aye _ _ (by omega) (by omega)) ?_ | refine rgE ?_ | refine Cd.mk rfl ?_ | refine Br.mk (fun _ => ?_) (fun _ => ?_) | refine Res.mk ?_ | refine an.cu _ _ ?_ | ((with_reducible refine EqE.idW ?_); with_reducible refine EqE.mk _ (ax _ (by omega)) ?_))
 ·rename_i h
  rw [aw, ad7 h0 i hi] at h
  have h : i ≠ tzn (nv a) := by simpa using h
  exact ⟨_, ⟨i + 1, rfl, by omega, rfl, rfl⟩, by omega⟩
 ·rename_i h
  rw [aw, ad7 h0 i hi] at h
  have h : i = tzn (nv a) := by simpa using h
  show D.int _ _ = D.int _ _
  rw [h]
end Go.Ev.Ar

namespace Go.Ev.Ar
open Go Go.Ev Go.Proofs
theorem cl {x : D} {n : Int} (hx : ZR x n) : Sim Tryz.prog G0 false 73 [x] (zD n) := by
 obtain ⟨b, l, hl⟩ := hx
 refine ao af Tryz.func73 ?_
 repeat' ((conv => whnf); first | with_reducible refine ag.data ?_ | refine aa.mk _ _ (jg _ (by omega)) ?_ | refine rgE ?_ | refine Cd.mk rfl ?_ | refine Br.t ?_ | refine Br.f ?_ | refine Br.mk (fun _ => ?_) (fun _ => ?_) | refine ah.mk _ rfl ?_ | (refine TkE.fL ?_; (conv => whnf); fail_if_success (show ae _ _)) | refine Res.mk ?_ | ((with_reducible refine EqE.idS ?_); (refine EqE.fP ?_; (conv => whnf); fail_if_success (show ae _ _))) | refine Cd.ol ?_)
 all_goals
  show zD _ = D.agg [D.bool _, sl (ofN (nv l))]
  refine (a2n ?_).symm
  simp only [ary, *, Bool.true_and, Bool.false_and]
theorem aqg {b : Bool} {l : List UInt32} {n : Int} (hl : l.length ≤ 4194304) (h : zv b l = n) : Sim Tryz.prog G0 false 73 [.agg [.bool b, sl l]] (zD n) := h ▸ cl (.mk b l hl)
theorem ak9 {m n : Int} (hm : Zt 134217728 m) (hn : Zt 134217728 n) : Sim Tryz.prog G0 true 156 [zD m, zD n] (.bool (decide (m = n))) := by
 have e1 := hm.len (k := 4194304) (by decide)
 have e2 := hn.len (k := 4194304) (by decide)
 refine ao af Tryz.func156 ?_
 repeat' ((conv => whnf); first | with_reducible refine ag.data ?_ | refine aa.mk _ _ (aus _ _ (by omega) (by omega)) ?_ | refine rgE ?_ | refine Cd.mk rfl ?_ | refine Br.t ?_ | refine Br.f ?_ | refine Br.mk (fun _ => ?_) (fun _ => ?_) | refine ah.mk _ rfl ?_ | refine Res.mk ?_)
 ·rename_i h
  show D.bool _ = D.bool _
  congr 1
  refine decide_eq_decide.2 ⟨fun e => by rw [e], fun e => ?_⟩
  have h1 := a1b e
  have h2 := eq_of_beq h
  have h3 : m < 0 ↔ n < 0 := by simpa [a7] using h2
  omega
 ·rename_i h
  show D.bool _ = D.bool _
  congr 1
  refine decide_eq_false fun e => ?_
  subst e; simp at h
theorem aym {x : D} {n : Int} (hx : ZR x n) : Sim Tryz.prog G0 false 120 [x] (zD (-n)) := by
 obtain ⟨b, l, hl⟩ := hx
 refine ao af Tryz.func120 ?_
 repeat' ((conv => whnf); first | with_reducible refine ag.data ?_ | refine aa.mk _ _ (aqg (n := -zv b l) (by omega) (by cases b <;> simp [zv])) ?_ | refine rgE ?_ | refine Cd.mk rfl ?_ | refine ah.mk _ rfl ?_ | (refine TkE.fL ?_; (conv => whnf); fail_if_success (show ae _ _)) | refine Res.mk ?_ | ((with_reducible refine EqE.idS ?_); (refine EqE.fP ?_; (conv => whnf); fail_if_success (show ae _ _))) | refine Cd.ol ?_)
 rfl
theorem adg {x : D} {n : Int} (hx : ZR x n) : Sim Tryz.prog G0 true 77 [x] (.int .i64 (Int.sign n)) := by
 obtain ⟨b, l, hl⟩ := hx
 refine ao af Tryz.func77 ?_
 repeat' ((conv => whnf); first | with_reducible refine ag.data ?_ | refine aa.mk _ _ (cl (.mk _ _ hl)) ?_ | refine rgE ?_ | refine Cd.mk rfl ?_ | with_reducible refine Br.dec (fun _ => ?_) (fun _ => ?_) | refine Br.mk (fun _ => ?_) (fun _ => ?_) | refine ah.mk _ rfl ?_ | (refine TkE.fL ?_; (conv => whnf); fail_if_success (show ae _ _)) | refine Res.mk ?_ | ((with_reducible refine EqE.idS ?_); (refine EqE.fP ?_; (conv => whnf); fail_if_success (show ae _ _))) | refine Cd.ol ?_)
 all_goals show D.int _ _ = D.int _ _
 ·rename_i h
  have h1 := bp (n := (zv b l).natAbs)
  have h2 : zv b l = 0 := by omega
  rw [h2]; rfl
 ·rename_i h h2
  rw [Int.sign_eq_neg_one_of_neg (of_decide_eq_true h2)]
 ·rename_i h h2
  have h1 := bp (n := (zv b l).natAbs)
  have h2 := of_decide_eq_false h2
  rw [Int.sign_eq_one_of_pos (by omega)]
theorem zpm (m n : Int) (c : Bool) (k : Nat) (h : (a7 m == a7 n) = true) : zv (a7 m) (ofN (nv (ofN m.natAbs) + nv (ofN n.natAbs))) = m + n := by
 have h2 := eq_of_beq h
 have h3 : m < 0 ↔ n < 0 := by simpa [a7] using h2
 unfold zv a7; rw [aw, aw, aw]
 by_cases h4 : m < 0
 ·rw [decide_eq_true h4, if_pos rfl]; omega
 ·rw [decide_eq_false h4, if_neg (by decide)]; omega
theorem a5r (m n : Int) (h : (a7 m == a7 n) = false) (h2 : nv (ofN n.natAbs) ≤ nv (ofN m.natAbs)) : zv (a7 m) (ofN (nv (ofN m.natAbs) - nv (ofN n.natAbs))) = m + n := by
 have h1 := ne_of_beq_false h
 have h3 : ¬ (m < 0 ↔ n < 0) := by simpa [a7] using h1
 rw [aw, aw] at h2
 unfold zv a7; rw [aw, aw, aw]
 by_cases h4 : m < 0
 ·rw [decide_eq_true h4, if_pos rfl]; omega
 ·rw [decide_eq_false h4, if_neg (by decide)]; omega
theorem a5z (m n : Int) (h : (a7 m == a7 n) = false) (h2 : ¬ nv (ofN n.natAbs) ≤ nv (ofN m.natAbs)) : zv (a7 n) (ofN (nv (ofN n.natAbs) - nv (ofN m.natAbs))) = m + n := by
 rw [a5r n m (by rw [Bool.beq_comm]; exact h) (by omega), Int.add_comm]
theorem aw9 {m n : Int} (hm : Zt 134217727 m) (hn : Zt 134217727 n) : (ofN (nv (ofN m.natAbs) + nv (ofN n.natAbs))).length ≤ 4194304 := by
 have h : Zt 134217728 ((m.natAbs : Int) + (n.natAbs : Int)) := Zt.add (hm.le (n := m.natAbs) (by omega)) (hn.le (n := n.natAbs) (by omega)) (by decide)
 have h2 := h.len (k := 4194304) (by decide)
 rw [aw, aw]
 rwa [show ((m.natAbs : Int) + (n.natAbs : Int)).natAbs = m.natAbs + n.natAbs by omega] at h2
theorem amq {m n : Int} (hm : Zt 134217727 m) : (ofN (nv (ofN m.natAbs) - nv (ofN n.natAbs))).length ≤ 4194304 := by
 rw [aw, aw]
 have h : Zt 134217727 ((m.natAbs - n.natAbs : Nat) : Int) := hm.le (by omega)
 exact h.len (by decide)
theorem ani {x y : D} {m n : Int} (hx : ZR x m) (hy : ZR y n) (hm : Zt 134217727 m) (hn : Zt 134217727 n) : Sim Tryz.prog G0 false 118 [x, y] (zD (m + n)) := by
 have e1 := hm.len (k := 4194304) (by decide)
 have e2 := hn.len (k := 4194304) (by decide)
 have e3 := aw9 hm hn
 have e4 := amq (n := n) hm
 have e5 := amq (n := m) hn
 obtain ⟨b, l, hl⟩ := hx
 obtain ⟨c, k, hk⟩ := hy
 refine ao af Tryz.func118 ?_
 repeat' ((conv => whnf); first | with_reducible refine ag.data ?_ | refine aa.mk _ _ (cl (.mk _ _ hl)) ?_ | refine aa.mk _ _ (cl (.mk _ _ hk)) ?_ | refine aa.mk _ _ (cl (.mk _ _ e3)) ?_ | refine aa.mk _ _ (cl (.mk _ _ e4)) ?_ | refine aa.mk _ _ (cl (.mk _ _ e5)) ?_ | refine aa.mk _ _ (ayd _ _ (by omega) (by omega)) ?_ | refine aa.mk _ _ (ayu _ _ (by omega) (by omega)) ?_ | refine rgE ?_ | refine Cd.mk rfl ?_ | with_reducible refine Br.dec (fun _ => ?_) (fun _ => ?_) | refine Br.mk (fun _ => ?_) (fun _ => ?_) | refine ah.mk _ rfl ?_ | (refine TkE.fL ?_; (conv => whnf); fail_if_success (show ae _ _)) | refine Res.mk ?_ | ((with_reducible refine EqE.idS ?_); (refine EqE.fP ?_; (conv => whnf); fail_if_success (show ae _ _))) | refine Cd.ol ?_)
 ·rename_i h
  show zD _ = zD _
  exact congrArg zD (zpm _ _ true 0 h).symm
 ·rename_i h h2
  show zD _ = zD _
  exact congrArg zD (a5r _ _ h h2).symm
 ·rename_i h h2
  show zD _ = zD _
  exact congrArg zD (a5z _ _ h h2).symm
theorem axa {m n : Int} (hm : Zt 67108864 m) (hn : Zt 67108864 n) : (ofN (nv (ofN m.natAbs) * nv (ofN n.natAbs))).length ≤ 4194304 := by
 rw [aw, aw, ← Int.natAbs_mul]
 exact (hm.mul hn (c := 134217728) (by decide)).len (by decide)
theorem a5q (m n : Int) : zv (!(a7 m == a7 n)) (ofN (nv (ofN m.natAbs) * nv (ofN n.natAbs))) = m * n := by
 conv => rhs; rw [← p7 m, ← p7 n]
 unfold zv; rw [aw, Int.natCast_mul]; cases a7 m <;> cases a7 n <;> simp [Int.neg_mul, Int.mul_neg]
theorem anp {x y : D} {m n : Int} (hx : ZR x m) (hy : ZR y n) (hm : Zt 67108864 m) (hn : Zt 67108864 n) : Sim Tryz.prog G0 false 117 [x, y] (zD (m * n)) := by
 have e1 := hm.len (k := 4194304) (by decide)
 have e2 := hn.len (k := 4194304) (by decide)
 have e3 := axa hm hn
 obtain ⟨b, l, hl⟩ := hx
 obtain ⟨c, k, hk⟩ := hy
 refine ao af Tryz.func117 ?_
 repeat' ((conv => whnf); first | refine aa.mk _ _ (cl (.mk _ _ hl)) ?_ | refine aa.mk _ _ (cl (.mk _ _ hk)) ?_ | refine aa.mk _ _ (cl (.mk _ _ e3)) ?_ | refine aa.mk _ _ (ayl _ _ (by omega) (by omega)) ?_ | refine rgE ?_ | refine Cd.mk rfl ?_ | refine ah.mk _ rfl ?_ | (refine TkE.fL ?_; (conv => whnf); fail_if_success (show ae _ _)) | refine Res.mk ?_ | ((with_reducible refine EqE.idS ?_); (refine EqE.fP ?_; (conv => whnf); fail_if_success (show ae _ _))) | refine Cd.ol ?_)
 show zD _ = zD _
 exact congrArg zD (a5q _ _).symm
theorem ad4 {x : D} {m : Int} (n : Int) (hx : ZR x m) (hm : Zt 120000000 m) (hn : n ≤ 100000) : Sim Tryz.prog G0 false 119 [x, .int .i64 n] (zD (m * 2 ^ n.toNat)) := by
 have e1 := hm.len (k := 3750000) (by decide)
 have e3 := akk (j := 3125) e1 (show n ≤ 32 * (3125 : Nat) by omega)
 obtain ⟨b, l, hl⟩ := hx
 rw [nw] at e1 e3
 refine ao af Tryz.func119 ?_
 repeat' ((conv => whnf); first | refine aa.mk _ _ (jg _ (by omega)) ?_ | refine aa.mk _ _ (ayt _ _ (by omega) (by omega)) ?_ | refine aa.mk _ _ (cl (.mk _ _ (by omega))) ?_ | refine rgE ?_ | refine Cd.mk rfl ?_ | refine ah.mk _ rfl ?_ | (refine TkE.fL ?_; (conv => whnf); fail_if_success (show ae _ _)) | refine Res.mk ?_ | ((with_reducible refine EqE.idS ?_); (refine EqE.fP ?_; (conv => whnf); fail_if_success (show ae _ _))) | refine Cd.ol ?_)
 show zD _ = zD (zv b (ofN (nv (ofN (nv l)) * 2 ^ n.toNat)))
 rw [aw, azp]
theorem aqh (n : Int) (h1 : -9223372036854775808 ≤ n) (h2 : n ≤ 9223372036854775807) : Sim Tryz.prog G0 false 76 [.int .i64 n] (zD n) := by
 refine ao af Tryz.func76 ?_
 rcases Int.lt_or_le n 0 with h | h
 ·have w1 : IntKind.u64.wrap n = ((18446744073709551616 - n.natAbs : Nat) : Int) := by
   have e : IntKind.u64.wrap n = if (false && decide (n % 2 ^ 64 ≥ 2 ^ 63)) = true then n % 2 ^ 64 - 2 ^ 64 else n % 2 ^ 64 := rfl
   rw [e, if_neg (by simp)]; omega
  have w2 : IntKind.u64.wrap (0 - ((18446744073709551616 - n.natAbs : Nat) : Int)) = ((n.natAbs : Nat) : Int) := by
   generalize hx : (0 - ((18446744073709551616 - n.natAbs : Nat) : Int)) = x
   have e : IntKind.u64.wrap x = if (false && decide (x % 2 ^ 64 ≥ 2 ^ 63)) = true then x % 2 ^ 64 - 2 ^ 64 else x % 2 ^ 64 := rfl
   rw [e, if_neg (by simp)]; omega
  repeat' ((conv => whnf); first | with_reducible refine ag.data ?_ | refine aa.mk _ _ (cl (.mk _ _ (by simp))) ?_ | refine DsE.mk (bj [UInt32.ofNat n.natAbs, UInt32.ofNat (n.natAbs / 4294967296)]) (akl _ _) ?_ | refine rgE ?_ | refine Cd.mk rfl ?_ | with_reducible refine Br.dec (fun _ => ?_) (fun _ => ?_) | (refine TkE.fL ?_; (conv => whnf); fail_if_success (show ae _ _)) | refine Res.mk ?_ | ((with_reducible refine EqE.idW ?_); first | refine EqE.mk _ w1 ?_ | refine EqE.mk _ w2 ?_ | with_reducible refine EqE.mk _ (j8 _) ?_) | ((with_reducible refine EqE.idF ?_); first | with_reducible refine EqE.mk _ (acz _ _ (by omega)) ?_ | refine EqE.mk _ (l4 _ 4294967296 _ _ rfl) ?_) | ((with_reducible refine EqE.idS ?_); (refine EqE.fP ?_; (conv => whnf); fail_if_success (show ae _ _))) | ((with_reducible refine EqE.idL ?_); refine EqE.mk (sl [UInt32.ofNat n.natAbs, UInt32.ofNat (n.natAbs / 4294967296)]) rfl ?_) | refine Cd.ol ?_ | refine Cd.om ?_)
  ·show zD _ = zD (zv (decide (n < 0)) _)
   rw [decide_eq_true h, ae7, nv2 (by omega)]; congr 1; omega
  ·omega
 ·have w1 : IntKind.u64.wrap n = ((n.natAbs : Nat) : Int) := by rw [wrap_u64 h (by omega)]; omega
  repeat' ((conv => whnf); first | with_reducible refine ag.data ?_ | refine aa.mk _ _ (cl (.mk _ _ (by simp))) ?_ | refine DsE.mk (bj [UInt32.ofNat n.natAbs, UInt32.ofNat (n.natAbs / 4294967296)]) (akl _ _) ?_ | refine rgE ?_ | refine Cd.mk rfl ?_ | with_reducible refine Br.dec (fun _ => ?_) (fun _ => ?_) | (refine TkE.fL ?_; (conv => whnf); fail_if_success (show ae _ _)) | refine Res.mk ?_ | ((with_reducible refine EqE.idW ?_); first | refine EqE.mk _ w1 ?_ | with_reducible refine EqE.mk _ (aiv _ _ (by omega) (by omega)) ?_ | with_reducible refine EqE.mk _ (j8 _) ?_) | ((with_reducible refine EqE.idF ?_); first | with_reducible refine EqE.mk _ (acz _ _ (by omega)) ?_ | refine EqE.mk _ (l4 _ 4294967296 _ _ rfl) ?_) | ((with_reducible refine EqE.idS ?_); (refine EqE.fP ?_; (conv => whnf); fail_if_success (show ae _ _))) | ((with_reducible refine EqE.idL ?_); refine EqE.mk (sl [UInt32.ofNat n.natAbs, UInt32.ofNat (n.natAbs / 4294967296)]) rfl ?_) | refine Cd.ol ?_ | refine Cd.om ?_)
  ·omega
  ·show zD _ = zD (zv (decide (n < 0)) _)
   rw [decide_eq_false (by omega), aol, nv2 (by omega)]; congr 1; omega
theorem atl (l : List UInt32) : kj l = decide ((ofN (nv l)).length = l.length) := by
 by_cases h : kj l = true
 ·rw [h, akt h]; simp
 ·rw [Bool.not_eq_true] at h
  rw [h]
  symm
  refine decide_eq_false fun e => ?_
  have h2 : l ≠ [] := by rintro rfl; simp [kj] at h
  have h3 : (l.getD (l.length - 1) 0).toNat = 0 := by
   have h4 := mt (p8 l).2 (by rw [h]; decide)
   exact Classical.byContradiction fun h5 => h4 (.inr h5)
  have h4 := ago h2 h3
  have h5 := cb (l.take (l.length - 1))
  rw [h4, List.length_take] at h5
  have : 0 < l.length := List.length_pos_iff.2 h2
  omega
theorem aqd {b : Bool} {l : List UInt32} (hl : l.length ≤ 4194304) : Sim Tryz.prog G0 true 157 [.agg [.bool b, sl l]] (.bool (kj l && (decide (0 < l.length) || !b))) := by
 have h0 := cb l
 rw [atl]
 refine ao af Tryz.func157 ?_
 repeat' ((conv => whnf); first | refine aa.mk _ _ (jg _ (by omega)) ?_ | refine rgE ?_ | refine Cd.mk rfl ?_ | refine Br.t ?_ | refine Br.f ?_ | with_reducible refine Br.dec (fun _ => ?_) (fun _ => ?_) | refine Br.mk (fun _ => ?_) (fun _ => ?_) | refine ah.mk _ rfl ?_ | refine Res.mk ?_)
 all_goals show D.bool _ = D.bool _
 ·rename_i h h2
  rw [decide_eq_true (by omega), h2]; simp
 ·rename_i h h2
  rw [decide_eq_true (by omega), h2]
  simp
 ·rename_i h
  rw [decide_eq_false (by omega)]; rfl
end Go.Ev.Ar

namespace Go.Ev.Ar
open Go Go.Ev Go.Proofs
theorem aak {x : D} {m e : Int} (hx : ZR x m) (hm : Zt 300000 m) (h5 : m ≠ 0 → tzn m.natAbs ≤ 100000) (h1 : -1099511627776 ≤ e) (h2 : e ≤ 1099511627776) : Sim Tryz.prog G0 false 116 [x, .int .i64 e] (dyD (dof m e)) := by
 obtain ⟨b, l, hl⟩ := hx
 have e1 := hm.len (k := 10000) (by decide)
 have h4 := bp (n := (zv b l).natAbs)
 refine ao af Tryz.func116 ?_
 by_cases h0 : zv b l = 0
 ·rw [h0, og, ← tq]
  repeat' ((conv => whnf); first | with_reducible refine ag.data ?_ | with_reducible refine Br.bt fun _ => ?_ | refine aa.mk _ _ (cl (.mk _ _ hl)) ?_ | refine rgE ?_ | refine Cd.mk rfl ?_ | refine ah.mk _ rfl ?_ | (refine TkE.fL ?_; (conv => whnf); fail_if_success (show ae _ _)) | refine Res.mk ?_ | ((with_reducible refine EqE.idS ?_); (refine EqE.fP ?_; (conv => whnf); fail_if_success (show ae _ _))) | refine Cd.ol ?_)
  rfl
 ·have h3 : nv (ofN (zv b l).natAbs) ≠ 0 := by rw [aw]; omega
  have h5 : tzn (nv (ofN (zv b l).natAbs)) ≤ 100000 := by rw [aw]; exact h5 h0
  rw [← aj9 e h0]
  repeat' ((conv => whnf); first | with_reducible refine ag.data ?_ | with_reducible refine Br.bf fun _ => ?_ | refine aa.mk _ _ (cl (.mk _ _ hl)) ?_ | refine aa.mk _ _ (ann _ (by omega) h3) ?_ | refine aa.mk _ _ (anw _ _ (by omega) (by omega)) ?_ | refine rgE ?_ | refine Cd.mk rfl ?_ | refine ah.mk _ rfl ?_ | (refine TkE.fL ?_; (conv => whnf); fail_if_success (show ae _ _)) | refine Res.mk ?_ | ((with_reducible refine EqE.idW ?_); refine EqE.mk _ (aj (by omega) (by omega)) ?_) | ((with_reducible refine EqE.idS ?_); (refine EqE.fP ?_; (conv => whnf); fail_if_success (show ae _ _))) | refine Cd.ol ?_)
  show D.agg [D.bool _, sl _, D.int _ _] = D.agg [D.bool _, sl (ofN (nv (ofN (zv b l).natAbs) / 2 ^ tzn (nv (ofN (zv b l).natAbs)))), D.int _ (e + tzn (nv (ofN (zv b l).natAbs)))]
  rw [aw]
theorem aul {x : D} {m : Int} (e : Int) (hx : ZR x m) (hm : Zt 100000 m) : Sim Tryz.prog G0 false 19 [x, .int .i64 e] (dyD (dof m (min (max e (-20000)) 20000))) := by
 obtain ⟨b, l, hl⟩ := hx
 have e1 := hm.len (k := 3125) (by decide)
 have h4 := bp (n := (zv b l).natAbs)
 have e3 : max (-20000) (min e 20000) = min (max e (-20000)) 20000 := by omega
 refine ao af Tryz.func19 ?_
 by_cases h0 : zv b l = 0
 ·rw [h0, og, ← tq]
  repeat' ((conv => whnf); first | with_reducible refine ag.data ?_ | with_reducible refine Br.bt fun _ => ?_ | refine aa.mk _ _ (cl (.mk _ _ hl)) ?_ | refine rgE ?_ | refine Cd.mk rfl ?_ | refine ah.mk _ rfl ?_ | (refine TkE.fL ?_; (conv => whnf); fail_if_success (show ae _ _)) | refine Res.mk ?_ | ((with_reducible refine EqE.idS ?_); (refine EqE.fP ?_; (conv => whnf); fail_if_success (show ae _ _))) | refine Cd.ol ?_)
  rfl
 ·have h3 : nv (ofN (zv b l).natAbs) ≠ 0 := by rw [aw]; omega
  have h5 : tzn (nv (ofN (zv b l).natAbs)) < 100000 := by rw [aw]; exact hm.tz h0
  rw [← aj9 _ h0]
  repeat' ((conv => whnf); first | with_reducible refine ag.data ?_ | with_reducible refine Br.bf fun _ => ?_ | refine aa.mk _ _ (cl (.mk _ _ hl)) ?_ | refine aa.mk _ _ (ann _ (by omega) h3) ?_ | refine aa.mk _ _ (anw _ _ (by omega) (by omega)) ?_ | refine rgE ?_ | refine Cd.mk rfl ?_ | refine ah.mk _ rfl ?_ | (refine TkE.fL ?_; (conv => whnf); fail_if_success (show ae _ _)) | refine Res.mk ?_ | ((with_reducible refine EqE.idW ?_); refine EqE.mk _ (aj (by omega) (by omega)) ?_) | ((with_reducible refine EqE.idI ?_); first | refine EqE.mk _ (max_eq _ _) ?_ | refine EqE.mk _ (min_eq _ _) ?_) | ((with_reducible refine EqE.idS ?_); (refine EqE.fP ?_; (conv => whnf); fail_if_success (show ae _ _))) | refine Cd.ol ?_)
  show D.agg [D.bool _, sl _, D.int _ _] = D.agg [D.bool _, sl (ofN (nv (ofN (zv b l).natAbs) / 2 ^ tzn (nv (ofN (zv b l).natAbs)))), D.int _ (max (-20000) (min e 20000) + tzn (nv (ofN (zv b l).natAbs)))]
  rw [aw, e3]
inductive DyF : D → Dyadic → Prop where
 | mk (b : Bool) (l : List UInt32) (e : Int) (hl : l.length ≤ 3125) (h1 : -1048576 ≤ e) (h2 : e ≤ 1048576) : DyF (.agg [.bool b, sl l, .int .i64 e]) (dof (zv b l) e)
theorem ag1 {x : D} {q : Dyadic} (hx : DyF x q) : Sim Tryz.prog G0 false 79 [x] (dyD q) := by
 obtain ⟨b, l, e, hl, h1, h2⟩ := hx
 refine ao af Tryz.func79 ?_
 repeat' ((conv => whnf); first | with_reducible refine ag.data ?_ | refine aa.mk _ _ (aak (.mk b l (by omega)) (.agr hl (by decide)) (fun h => Nat.le_of_lt (Zt.tz (.agr (h := 100000) hl (by decide)) h)) (by omega) (by omega)) ?_ | refine rgE ?_ | refine Cd.mk rfl ?_ | refine ah.mk _ rfl ?_ | (refine TkE.fL ?_; (conv => whnf); fail_if_success (show ae _ _)) | refine Res.mk ?_ | ((with_reducible refine EqE.idS ?_); (refine EqE.fP ?_; (conv => whnf); fail_if_success (show ae _ _))) | refine Cd.ol ?_)
 rfl
theorem ag8 (n : Int) (h1 : -9223372036854775808 ≤ n) (h2 : n ≤ 9223372036854775807) : Sim Tryz.prog G0 false 20 [.int .i64 n] (dyD (dof n 0)) := by
 have h3 : ∀ k, 64 ≤ k → Zt k n := fun k hk => .small (by omega) hk
 refine ao af Tryz.func20 ?_
 repeat' ((conv => whnf); first | with_reducible refine ag.data ?_ | refine aa.mk _ _ (aqh _ (by omega) (by omega)) ?_ | refine aa.mk _ _ (aul _ (.of (h3 _ (by decide))) (h3 _ (by decide))) ?_ | refine rgE ?_ | refine Cd.mk rfl ?_ | (refine TkE.fL ?_; (conv => whnf); fail_if_success (show ae _ _)) | refine Res.mk ?_ | ((with_reducible refine EqE.idS ?_); (refine EqE.fP ?_; (conv => whnf); fail_if_success (show ae _ _))) | refine Cd.ol ?_)
 rfl
theorem ag5 {p q : Dyadic} (hp : Ht 50000 p) (hq : Ht 50000 q) : Sim Tryz.prog G0 true 100 [dyD p, dyD q] (.bool (decide (p = q))) := by
 refine ao af Tryz.func100 ?_
 repeat' ((conv => whnf); first | with_reducible refine ag.data ?_ | refine aa.mk _ _ (ak9 (m := ak p) (n := ak q) (hp.parts.1.mono (by decide)) (hq.parts.1.mono (by decide))) ?_ | refine rgE ?_ | refine Cd.mk rfl ?_ | refine Br.t ?_ | refine Br.f ?_ | with_reducible refine Br.dec (fun _ => ?_) (fun _ => ?_) | refine ah.mk _ rfl ?_ | (refine TkE.fL ?_; (conv => whnf); fail_if_success (show ae _ _)) | refine Res.mk ?_)
 ·rename_i h
  show D.bool _ = D.bool _
  congr 1
  exact decide_eq_decide.2 ⟨fun e => by rw [e], fun e => az8 e h⟩
 ·rename_i h
  show D.bool _ = D.bool _
  congr 1
  exact decide_eq_false fun e => h (by rw [e])
theorem aah {p : Dyadic} (hp : Ht 50000 p) : Sim Tryz.prog G0 true 23 [dyD p] (.int .i64 (dsg p)) := by
 refine ao af Tryz.func23 ?_
 repeat' ((conv => whnf); first | with_reducible refine ag.data ?_ | refine aa.mk _ _ (adg (.of (n := ak p) (hp.parts.1.mono (by decide)))) ?_ | refine rgE ?_ | refine Cd.mk rfl ?_ | (refine TkE.fL ?_; (conv => whnf); fail_if_success (show ae _ _)) | refine Res.mk ?_)
 rfl
theorem an7 {m e : Int} {h : Nat} (hq : Ht h (dof m e)) (he : -(100000 - h : Int) ≤ e) : m ≠ 0 → tzn m.natAbs ≤ 100000 := by
 intro h0
 have h1 := (nh e h0).2.2
 have h2 := hq.parts.2.2
 omega
theorem zb {p q : Dyadic} (hp : Ht 49000 p) (hq : Ht 49000 q) : Sim Tryz.prog G0 false 64 [dyD p, dyD q] (dyD (p + q)) := by
 obtain ⟨hp1, hp2, hp3⟩ := hp.parts
 obtain ⟨hq1, hq2, hq3⟩ := hq.parts
 have u1 : Zt 200000 (ak p * 2 ^ (av p - min (av p) (av q)).toNat) := hp1.shl (by omega)
 have u2 : Zt 200000 (ak q * 2 ^ (av q - min (av p) (av q)).toNat) := hq1.shl (by omega)
 have u3 := u1.add u2 (c := 200001) (by decide)
 have u4 : Ht 49001 (p + q) := hp.add hq (by decide)
 rw [← aj7] at u4
 refine ao af Tryz.func64 ?_
 repeat' ((conv => whnf); first | with_reducible refine ag.data ?_ | refine aa.mk _ _ (adg (.of (n := ak p) (hp1.mono (by decide)))) ?_ | refine aa.mk _ _ (adg (.of (n := ak q) (hq1.mono (by decide)))) ?_ | refine aa.mk _ _ (ad4 _ (.of (n := ak p) (hp1.mono (by decide))) (hp1.mono (by decide)) (by omega)) ?_ | refine aa.mk _ _ (ad4 _ (.of (n := ak q) (hq1.mono (by decide))) (hq1.mono (by decide)) (by omega)) ?_ | refine aa.mk _ _ (ani (.of (u1.mono (by decide))) (.of (u2.mono (by decide))) (u1.mono (by decide)) (u2.mono (by decide))) ?_ | refine aa.mk _ _ (aak (.of (u3.mono (by decide))) (u3.mono (by decide)) (an7 u4 (by omega)) (by omega) (by omega)) ?_ | refine rgE ?_ | refine Cd.mk rfl ?_ | with_reducible refine Br.dec (fun _ => ?_) (fun _ => ?_) | refine ah.mk _ rfl ?_ | (refine TkE.fL ?_; (conv => whnf); fail_if_success (show ae _ _)) | refine Res.mk ?_ | ((with_reducible refine EqE.idW ?_); refine EqE.mk _ (aj (by omega) (by omega)) ?_) | ((with_reducible refine EqE.idI ?_); refine EqE.mk _ (min_eq _ _) ?_) | ((with_reducible refine EqE.idS ?_); (refine EqE.fP ?_; (conv => whnf); fail_if_success (show ae _ _))) | refine Cd.ol ?_)
 ·rename_i h
  have h : p = 0 := jj.1 h
  show dyD _ = dyD q
  rw [h, Dyadic.zero_add]
 ·rename_i h0 h
  have h : q = 0 := jj.1 h
  show dyD _ = dyD p
  rw [h, Dyadic.add_zero]
 ·exact congrArg dyD (aj7 p q).symm
theorem adb {p : Dyadic} (hp : Ht 50000 p) : Sim Tryz.prog G0 false 65 [dyD p] (dyD (-p)) := by
 refine ao af Tryz.func65 ?_
 repeat' ((conv => whnf); first | refine aa.mk _ _ (aym (.of (n := ak p) (hp.parts.1.mono (by decide)))) ?_ | refine rgE ?_ | refine Cd.mk rfl ?_ | refine ah.mk _ rfl ?_ | (refine TkE.fL ?_; (conv => whnf); fail_if_success (show ae _ _)) | refine Res.mk ?_ | ((with_reducible refine EqE.idS ?_); (refine EqE.fP ?_; (conv => whnf); fail_if_success (show ae _ _))) | refine Cd.ol ?_)
 show dyD _ = D.agg [.bool (a7 (-ak p)), sl (ofN (-ak p).natAbs), .int .i64 (av p)]
 unfold dyD
 rw [atn, av9]
theorem ai6 {p q : Dyadic} (hp : Ht 49000 p) (hq : Ht 49000 q) : Sim Tryz.prog G0 false 72 [dyD p, dyD q] (dyD (p - q)) := by
 refine ao af Tryz.func72 ?_
 repeat' ((conv => whnf); first | refine aa.mk _ _ (adb (hq.mono (by decide))) ?_ | refine aa.mk _ _ (zb hp hq.neg) ?_ | refine rgE ?_ | refine Cd.mk rfl ?_ | (refine TkE.fL ?_; (conv => whnf); fail_if_success (show ae _ _)) | refine Res.mk ?_ | ((with_reducible refine EqE.idS ?_); (refine EqE.fP ?_; (conv => whnf); fail_if_success (show ae _ _))) | refine Cd.ol ?_)
 rfl
theorem qh {p q : Dyadic} (hp : Ht 25000 p) (hq : Ht 25000 q) : Sim Tryz.prog G0 false 63 [dyD p, dyD q] (dyD (p * q)) := by
 have hz := hp.parts.1.mul hq.parts.1 (c := 300000) (by decide)
 have h1 := hp.parts.2
 have h2 := hq.parts.2
 have u4 : Ht 50000 (dof (ak p * ak q) (av p + av q)) := by
  rw [← o9, bu, bu]; exact hp.mul hq (by decide)
 refine ao af Tryz.func63 ?_
 repeat' ((conv => whnf); first | refine aa.mk _ _ (anp (.of (n := ak p) (hp.parts.1.mono (by decide))) (.of (n := ak q) (hq.parts.1.mono (by decide))) (hp.parts.1.mono (by decide)) (hq.parts.1.mono (by decide))) ?_ | refine aa.mk _ _ (aak (.of (hz.mono (by decide))) hz (an7 u4 (by omega)) (by omega) (by omega)) ?_ | refine rgE ?_ | refine Cd.mk rfl ?_ | refine ah.mk _ rfl ?_ | (refine TkE.fL ?_; (conv => whnf); fail_if_success (show ae _ _)) | refine Res.mk ?_ | ((with_reducible refine EqE.idW ?_); refine EqE.mk _ (aj (by omega) (by omega)) ?_) | ((with_reducible refine EqE.idS ?_); (refine EqE.fP ?_; (conv => whnf); fail_if_success (show ae _ _))) | refine Cd.ol ?_)
 show dyD _ = dyD (dof (ak p * ak q) (av p + av q))
 rw [← o9, bu, bu]
theorem ai5 {p q : Dyadic} (hp : Ht 49000 p) (hq : Ht 49000 q) (hpq : Ht 50000 (p - q)) : Sim Tryz.prog G0 true 33 [dyD p, dyD q] (.int .i64 (dsg (p - q))) := by
 refine ao af Tryz.func33 ?_
 repeat' ((conv => whnf); first | with_reducible refine ag.data ?_ | refine aa.mk _ _ (ai6 hp hq) ?_ | refine aa.mk _ _ (aah hpq) ?_ | refine rgE ?_ | refine Cd.mk rfl ?_ | (refine TkE.fL ?_; (conv => whnf); fail_if_success (show ae _ _)) | refine Res.mk ?_)
 rfl
end Go.Ev.Ar

namespace Go.Ev
open Go
theorem awd (p q : Dyadic) : ak (p * q) = ak p * ak q := by
 cases p with
 | zero => show ak (0 * q) = 0 * ak q; rw [Dyadic.zero_mul, Int.zero_mul]; rfl
 | ofOdd n k hn =>
  cases q with
  | zero => show ak (_ * 0) = _ * 0; rw [Dyadic.mul_zero, Int.mul_zero]; rfl
  | ofOdd m j hm => rfl
theorem aba {q : Dyadic} (h : q ≠ 0) : db q = av q + nb (ak q).natAbs - 1 := by
 unfold db; rw [if_neg (fun e => h (fh.1 e))]
theorem axn {n : Nat} (h : n ≠ 0) : 0 < nb n := by
 rcases Nat.eq_zero_or_pos (nb n) with h2 | h2
 ·have := axm n; rw [h2] at this; omega
 ·exact h2
theorem u7 {q : Dyadic} (h : q ≠ 0) : dof 1 (db q) ≤ gz q := by
 have h0 : (ak q).natAbs ≠ 0 := fun e => h (fh.1 (by omega))
 have h1 := axn h0
 have h2 := axl h0
 rw [aba h, show av q + (nb (ak q).natAbs : Int) - 1 = av q + ((nb (ak q).natAbs - 1 : Nat) : Int) by omega, ← fw]
 unfold gz
 rw [ack, Int.one_mul]
 exact_mod_cast h2
theorem vn {q : Dyadic} (h : q ≠ 0) : gz q < dof 1 (db q + 1) := by
 have h2 := axm (ak q).natAbs
 rw [aba h, show av q + (nb (ak q).natAbs : Int) - 1 + 1 = av q + ((nb (ak q).natAbs : Nat) : Int) by omega, ← fw]
 unfold gz
 rw [mg, Int.one_mul]
 exact_mod_cast h2
theorem xi {q : Dyadic} {h : Nat} (hq : Ht h q) : -(h : Int) ≤ db q ∧ db q ≤ 3 * h := by
 obtain ⟨h1, h2, h3⟩ := hq.parts
 by_cases h0 : q = 0
 ·subst h0; show -(h : Int) ≤ 0 ∧ (0 : Int) ≤ _; omega
 ·have h4 := axn (n := (ak q).natAbs) (fun e => h0 (fh.1 (by omega)))
  have h5 := h1.nb
  rw [aba h0]
  omega
end Go.Ev
