/- Contracts of the given functions, on data. Conditions stand in each theorem. -/
import Derived.Shelf.Strings.Builder1
import Derived.Shelf.Small.Strs
import Derived.Shelf.Strconv.Itoa0
import Derived.Shelf.Strconv.Itoa1
import Derived.Shelf.LaysM
import Derived.Shelf.Strconv.Itoa2
import Derived.Shelf.Strconv.Itoa3
import Derived.Shelf.LaysC
import Derived.Ground.MpProg
import Derived.Shelf.Pu.ParseUintPublic10
import Derived.Shelf.Strings.Search1
import Derived.Shelf.Strings.Repeat
import Derived.Ground.SlgnProg
import Derived.Test.YtdpjainjjpjldaaDoorProg
import Derived.Test.YtdpjainjjpjldaaDoorGEvK
set_option linter.unusedSimpArgs false
set_option linter.unusedVariables false
namespace Go.Ev.Ar
open Go Go.Ev Go.Proofs
theorem yk (l : List UInt32) (hl : l.length < 2^40) : Sim Tryd.prog G0 false 14 [sl l] (sl (ofN (nv l))) := by
 refine cl ay Tryd.func14 ?_
 repeat' ((conv => whnf); first | refine rgE ?_)
 refine ⟨[], [0, 3], [], fun m xs h => m ≤ l.length ∧ nv (l.take m) = nv l ∧ ∃ i : Int, i = m ∧ xs = [.d (sl l), .d (.int .i64 i)] ∧ h = [],
  ⟨_, _, _, ⟨.inl rfl, rfl, rfl, by first | rfl | (repeat first | exact all_nil _ | refine cz _ _ _ _ _ ?_)⟩, Nat.le_refl _, by rw [List.take_length], _, rfl, rfl, rfl⟩, ?_⟩
 rintro m xs h ⟨hm, hv, i, hi, rfl, rfl⟩
 repeat' ((conv => whnf); first | refine rgE ?_ | refine Cd.mk rfl ?_ | refine Br.t ?_ | refine Br.f ?_ | with_reducible refine Br.dec (fun _ => ?_) (fun _ => ?_) | refine ao.mk _ (a6 _ _ (by omega)) ?_ | refine Res.mk ?_ | refine ai.cu _ _ ?_ | ((with_reducible refine EqE.idW ?_); with_reducible refine EqE.mk _ (ah (by omega) (by omega)) ?_) | ((with_reducible refine EqE.idL ?_); refine EqE.mk _ (bn _ _ _ (by omega) (by omega) (by omega)) ?_) | refine Cd.om ?_)
 ·rename_i h0 h1
  have e : (i - 1).toNat = m - 1 := by omega
  rw [e] at h1
  refine ⟨m - 1, ⟨by omega, ?_, _, ?_, rfl, rfl⟩, by omega⟩
  ·have := bp l (m - 1)
   rw [show m - 1 + 1 = m by omega, hv, show (l.getD (m - 1) 0).toNat = 0 by omega] at this
   omega
  ·omega
 ·rename_i h0 h1
  have e : (i - 1).toNat = m - 1 := by omega
  rw [e] at h1
  show sl _ = sl _
  rw [show (i - 0).toNat = m by omega, Int.toNat_zero, List.drop_zero, ← hv, zt (.inr ?_)]
  rw [List.length_take, Nat.min_eq_left hm]
  have : (l.take m).getD (m - 1) 0 = l.getD (m - 1) 0 := by
   simp only [List.getD_eq_getElem?_getD, List.getElem?_take]
   rw [if_pos (by omega)]
  rw [this]; omega
 ·rename_i h0
  show sl _ = sl _
  rw [show (i - 0).toNat = 0 by omega, Int.toNat_zero, List.drop_zero, ← hv, show m = 0 by omega]
  exact congrArg sl dj
theorem af0 (a b : List UInt32) (ha : a.length < 2^40) (hb : b.length < 2^40) : Sim Tryd.prog G0 true 26 [sl a, sl b] (.bool (decide (a = b))) := by
 refine cl ay Tryd.func26 ?_
 repeat' ((conv => whnf); first | refine rgE ?_ | refine Cd.mk rfl ?_ | with_reducible refine Br.br (fun _ => ?_) (fun _ => ?_) | refine Res.mk ?_)
 ·show D.bool _ = D.bool _
  rw [decide_eq_false]; intro e; subst e; omega
 rename_i h0
 skip
 refine ⟨[], [0, 1, 5], [], fun m xs h => ∃ i : Nat, m = a.length - i ∧ i ≤ a.length ∧ a.take i = b.take i ∧ xs = [.d (sl a), .d (sl b), .d (.int .i64 i)] ∧ h = [],
  ⟨_, _, _, ⟨.inl rfl, rfl, rfl, by first | rfl | (repeat first | exact all_nil _ | refine cz _ _ _ _ _ ?_)⟩, 0, rfl, by omega, rfl, rfl, rfl⟩, ?_⟩
 rintro m xs h ⟨i, rfl, hi, hv, rfl, rfl⟩
 repeat' ((conv => whnf); first | refine rgE ?_ | refine Cd.mk rfl ?_ | with_reducible refine Br.dec (fun _ => ?_) (fun _ => ?_) | with_reducible refine Br.br (fun _ => ?_) (fun _ => ?_) | refine ao.mk _ (az _ _ (by omega)) ?_ | refine Res.mk ?_ | refine ai.cu _ _ ?_ | ((with_reducible refine EqE.idW ?_); with_reducible refine EqE.mk _ (ar _ (by omega)) ?_) | refine Cd.om ?_)
 ·rename_i h1 h2
  show D.bool _ = D.bool _
  rw [decide_eq_false]; intro e; subst e; exact h2 rfl
 ·rename_i h1 h2
  refine ⟨_, ⟨i + 1, rfl, by omega, ?_, rfl, rfl⟩, by omega⟩
  have ha' : i < a.length := by omega
  have hb' : i < b.length := by omega
  have h3 : a.getD i 0 = b.getD i 0 := UInt32.toNat_inj.1 (by omega)
  have h4 : a[i] = b[i] := by simpa [ha', hb'] using h3
  rw [List.take_succ_eq_append_getElem ha', List.take_succ_eq_append_getElem hb', hv, h4]
 ·rename_i h1
  show D.bool _ = D.bool _
  rw [List.take_of_length_le (by omega), List.take_of_length_le (by omega)] at hv
  rw [decide_eq_true hv]
end Go.Ev.Ar

namespace Go.Ev.Ar
open Go Go.Ev Go.Proofs
theorem xp (l : List UInt32) (hl : l.length < 2^32) : Sim Tryd.prog G0 false 32 [sl l] (sl l) := by
 refine cl ay Tryd.func32 ?_
 repeat' ((conv => whnf); first | refine rgE ?_ | refine Cd.mk rfl ?_ | refine Br.t ?_ | refine Br.f ?_ | refine And.intro (fun _ => ?_) ?_ | refine Res.mk ?_ | refine DsE.mk (ba _) rfl ?_ | refine DsE.mk [] rfl ?_ | ((with_reducible refine EqE.idA ?_); refine EqE.mk _ (b8 _) ?_) | ((with_reducible refine EqE.idL ?_); refine EqE.mk _ (ax _ _ _ _ (by omega) (by omega) rfl) ?_) | refine Cd.mk ⟨rfl, rfl⟩ ?_ | refine Cd.mk (bd _) ?_ | refine Cd.om ?_)
 ·rename_i h
  have h : l = [] := by simpa [ba] using h
  subst h; rfl
 ·rfl
theorem aip (l : List UInt32) (hl : l.length < 2^32) : Sim Tryd.prog G0 false 44 [sl l] (sl (ofN (nv l))) := by
 refine cl ay Tryd.func44 ?_
 have h := ee l
 repeat' ((conv => whnf); first | refine aw.data ?_ | refine fv.mk _ _ (fm _ (by omega)) ?_ | refine fv.mk _ _ (xp _ (by omega)) ?_ | refine rgE ?_ | refine Res.mk ?_)
 rfl
end Go.Ev.Ar

namespace Go.Ev.Ar
open Go Go.Ev Go.Proofs
theorem zq (n : Nat) : nb (n % 256) ≤ 8 := n8.2 (by omega)
set_option maxHeartbeats 1000000 in
theorem afs (x : UInt32) : Sim Tryd.prog G0 true 47 [.int .u32 x.toNat] (.int .i64 (nb x.toNat)) := by
 refine cl ay Tryd.func47 ?_
 have hx := ck x
 repeat' ((conv => whnf); first | refine Cd.mk (al9 256 (by kernel_rfl) (by omega)) ?_ | refine EqE.mk _ (akj nb 256 _ (by kernel_rfl) rfl (by omega)) ?_ | refine rgE ?_ | refine Cd.mk rfl ?_ | with_reducible refine Br.dec (fun _ => ?_) (fun _ => ?_) | refine Res.mk ?_ | ((with_reducible refine EqE.idW ?_); first | with_reducible refine EqE.mk _ (a7 _ (Nat.lt_of_le_of_lt (n8.2 (show _ < 2 ^ 8 by omega)) (by decide))) ?_ | with_reducible refine EqE.mk _ (gu _) ?_ | with_reducible refine EqE.mk _ (ar _ (by omega)) ?_ | with_reducible refine EqE.mk _ (ah (by omega) (by omega)) ?_ | refine EqE.mk _ rfl ?_) | ((with_reducible refine EqE.idF ?_); first | refine EqE.mk _ (aj _ 65536 _ _ rfl) ?_ | refine EqE.mk _ (aj _ 256 _ _ rfl) ?_) | refine Cd.om ?_)
 all_goals show D.int _ _ = D.int _ _
 ·have h1 := zq (x.toNat / 65536 / 256)
  have h2 : nb x.toNat = 16 + nb (x.toNat / 65536) := se (k := 16) (by omega)
  have h3 : nb (x.toNat / 65536) = 8 + nb (x.toNat / 65536 / 256) := se (k := 8) (by omega)
  rw [Nat.mod_eq_of_lt (show x.toNat / 65536 / 256 < 256 by omega)] at h1 ⊢
  rw [ah (by omega) (by omega), h2, h3]; congr 1; omega
 ·have h1 := zq (x.toNat / 65536)
  have h2 : nb x.toNat = 16 + nb (x.toNat / 65536) := se (k := 16) (by omega)
  rw [Nat.mod_eq_of_lt (show x.toNat / 65536 < 256 by omega)] at h1 ⊢
  rw [ah (by omega) (by omega), h2]; congr 1
 ·have h1 := zq (x.toNat / 256)
  have h2 : nb x.toNat = 8 + nb (x.toNat / 256) := se (k := 8) (by omega)
  rw [Nat.mod_eq_of_lt (show x.toNat / 256 < 256 by omega)] at h1 ⊢
  rw [ah (by omega) (by omega), h2]; congr 1
 ·have h1 := zq x.toNat
  rw [Nat.mod_eq_of_lt (show x.toNat < 256 by omega)] at h1 ⊢
  rw [ah (by omega) (by omega)]; congr 1; omega
end Go.Ev.Ar

namespace Go.Ev.Ar
open Go Go.Ev Go.Proofs
theorem aja (a b : List UInt32) (ha : a.length < 2^32) (hb : b.length < 2^32) : Sim Tryd.prog G0 true 31 [sl a, sl b] (.int .i64 (xb (nv a) (nv b))) := by
 refine cl ay Tryd.func31 ?_
 have h1 := ee a
 have h2 := ee b
 repeat' ((conv => whnf); first | refine aw.data ?_ | refine fv.mk _ _ (fm _ (by omega)) ?_ | refine rgE ?_ | refine Cd.mk rfl ?_ | with_reducible refine Br.dec (fun _ => ?_) (fun _ => ?_) | with_reducible refine Br.br (fun _ => ?_) (fun _ => ?_) | refine Res.mk ?_ | ((with_reducible refine EqE.idW ?_); with_reducible refine EqE.mk _ (ah (by omega) (by omega)) ?_))
 ·rename_i h3 h4
  show D.int _ _ = D.int _ _
  rw [y6 (qe (by omega))]
 ·rename_i h3 h4
  show D.int _ _ = D.int _ _
  rw [aec (qe (by omega))]
 rename_i h3
 skip
 refine ⟨[], [0, 1, 5], [], fun m xs h => m ≤ (ofN (nv a)).length ∧ nv ((ofN (nv a)).drop m) = nv ((ofN (nv b)).drop m) ∧ ∃ i : Int, i = m - 1 ∧ xs = [.d (sl (ofN (nv a))), .d (sl (ofN (nv b))), .d (.int .i64 i)] ∧ h = [],
  ⟨_, _, _, ⟨.inl rfl, rfl, rfl, by first | rfl | (repeat first | exact all_nil _ | refine cz _ _ _ _ _ ?_)⟩, Nat.le_refl _, ?_, _, rfl, rfl, rfl⟩, ?_⟩
 ·rw [List.drop_eq_nil_of_le (Nat.le_refl _), List.drop_eq_nil_of_le (by omega)]
 rintro m xs h ⟨hm, hv, i, hi, rfl, rfl⟩
 repeat' ((conv => whnf); first | refine rgE ?_ | refine Cd.mk rfl ?_ | with_reducible refine Br.dec (fun _ => ?_) (fun _ => ?_) | refine ao.mk _ (a6 _ _ (by omega)) ?_ | refine Res.mk ?_ | refine ai.cu _ _ ?_ | ((with_reducible refine EqE.idW ?_); with_reducible refine EqE.mk _ (ah (by omega) (by omega)) ?_) | refine Cd.om ?_)
 ·rename_i h4 h5
  have e : i.toNat = m - 1 := by omega
  rw [e] at h5
  show D.int _ _ = D.int _ _
  rw [y6]
  have h6 : nv ((ofN (nv a)).drop (m - 1)) < nv ((ofN (nv b)).drop (m - 1)) := by
   rw [k5 (ofN (nv a)) (m - 1) (by omega), k5 (ofN (nv b)) (m - 1) (by omega), show m - 1 + 1 = m by omega, hv]; omega
  simpa using vx _ h6
 ·rename_i h4 h6 h5
  have e : i.toNat = m - 1 := by omega
  rw [e] at h5
  show D.int _ _ = D.int _ _
  rw [aec]
  have h6 : nv ((ofN (nv b)).drop (m - 1)) < nv ((ofN (nv a)).drop (m - 1)) := by
   rw [k5 (ofN (nv a)) (m - 1) (by omega), k5 (ofN (nv b)) (m - 1) (by omega), show m - 1 + 1 = m by omega, hv]; omega
  simpa using vx _ h6
 ·rename_i h4 h6 h5
  have e : i.toNat = m - 1 := by omega
  rw [e] at h5 h6
  refine ⟨m - 1, ⟨by omega, ?_, _, ?_, rfl, rfl⟩, by omega⟩
  ·rw [k5 (ofN (nv a)) (m - 1) (by omega), k5 (ofN (nv b)) (m - 1) (by omega), show m - 1 + 1 = m by omega, hv]; omega
  ·omega
 ·rename_i h4
  have e : m = 0 := by omega
  subst e
  show D.int _ _ = D.int _ _
  rw [ai8]
  simpa using hv
end Go.Ev.Ar

namespace Go.Ev.Ar
open Go Go.Ev Go.Proofs
set_option maxHeartbeats 1000000 in
theorem aen (a b : List UInt32) (ha : a.length < 2^30) (hb : b.length < 2^30) : Sim Tryd.prog G0 false 28 [sl a, sl b] (sl (ofN (nv a * nv b))) := by
 refine cl ay Tryd.func28 ?_
 have h1 := ee a
 have h2 := ee b
 repeat' ((conv => whnf); first | refine aw.data ?_ | refine fv.mk _ _ (fm _ (by omega)) ?_ | refine rgE ?_ | refine Cd.mk rfl ?_ | ((with_reducible refine EqE.idW ?_); with_reducible refine EqE.mk _ (a7 _ (by omega)) ?_) | ((with_reducible refine EqE.idR ?_); refine EqE.mk _ (ca _) ?_) | refine Cd.om ?_)
 generalize hA : ofN (nv a) = A at *
 generalize hB : ofN (nv b) = B at *
 have hvA : nv A = nv a := by rw [← hA, di]
 have hvB : nv B = nv b := by rw [← hB, di]
 refine ⟨[], [0,1,5,21,22,23], [20], fun m xs h => ∃ (n i : Nat) (l : List UInt32), m = A.length - i ∧ n = A.length + B.length ∧ i ≤ A.length ∧ l.length = n ∧ nv l = nv (A.take i) * nv B ∧ (∀ j, i + B.length ≤ j → (l.getD j 0).toNat = 0) ∧
  xs = [.d (sl A), .d (sl B), .own 20 0 n 1, .d (sl A), .d (.int .i64 A.length), .d (.int .i64 i)] ∧ h = [(20, false, la l)],
  ⟨_, _, _, ⟨.inl rfl, rfl, rfl, by first | rfl | (repeat first | exact all_nil _ | refine cz _ _ _ _ _ ?_)⟩, _, 0, _, rfl, by omega, by omega, by simp, by simp [dw], fun j _ => n5 _ _, rfl, rfl⟩, ?_⟩
 rintro m xs h ⟨n, i, l, rfl, hn, hi, hl, hv, hz, rfl, rfl⟩
 repeat' ((conv => whnf); first | refine aw.data ?_ | refine fv.mk _ _ (fm _ (by omega)) ?_ | refine rgE ?_ | refine Cd.mk rfl ?_ | with_reducible refine Br.dec (fun _ => ?_) (fun _ => ?_) | refine ao.mk _ (az _ _ (by omega)) ?_ | refine Res.mk ?_ | refine DsE.mk (ba _) rfl ?_ | ((with_reducible refine EqE.idL ?_); refine EqE.mk _ (ax _ _ _ _ (by omega) (by omega) rfl) ?_) | refine Cd.om ?_)
 ·rename_i h0
  have hx := ck (A.getD i 0)
  generalize hxe : (A.getD i 0).toNat = x at *
  refine ⟨[], [0,1,5,6,7,8,21,22,23,28,29,30], [20], fun m xs h => ∃ (k c : Nat) (l : List UInt32), m = B.length - k ∧ k ≤ B.length ∧ c < 4294967296 ∧ l.length = n ∧ nv l + Pw (i + k) * c = nv (A.take i) * nv B + Pw i * (x * nv (B.take k)) ∧ (∀ j, i + B.length ≤ j → (l.getD j 0).toNat = 0) ∧
   xs = [.d (sl A), .d (sl B), .own 20 0 n 1, .d (.int .i64 i), .d (.int .u32 x), .d (.int .u64 c), .d (sl A), .d (.int .i64 A.length), .d (.int .i64 i), .d (sl B), .d (.int .i64 B.length), .d (.int .i64 k)] ∧ h = [(20, false, la l)],
   ⟨_, _, _, ⟨.inl rfl, rfl, rfl, by first | rfl | (repeat first | exact all_nil _ | refine cz _ _ _ _ _ ?_)⟩, 0, 0, _, rfl, by omega, by omega, hl, by simp [hv], hz, rfl, rfl⟩, ?_⟩
  rintro m xs h ⟨k, c, l, rfl, hk, hc, hl, hv, hz, rfl, rfl⟩
  have ho := ck (l.getD (i + k) 0)
  have hy := ck (B.getD k 0)
  have hxy : x * (B.getD k 0).toNat ≤ 4294967295 * 4294967295 := Nat.mul_le_mul (by omega) (by omega)
  repeat' ((conv => whnf); first | refine rgE ?_ | refine Cd.mk rfl ?_ | with_reducible refine Br.dec (fun _ => ?_) (fun _ => ?_) | refine ao.mk _ (az _ _ (by omega)) ?_ | refine ao.mk _ (cv _ _ _ (by first | with_reducible exact af _ | with_reducible exact ab _ | exact af _ | exact ab _ | rfl) (by first | omega | (simp only [List.length_set]; omega))) ?_ | refine ai.cu _ _ ?_ | ((with_reducible refine EqE.idW ?_); first | with_reducible refine EqE.mk _ (av _) ?_ | with_reducible refine EqE.mk _ (ed _ _ (by omega)) ?_ | with_reducible refine EqE.mk _ (ep _ _ (by omega)) ?_ | with_reducible refine EqE.mk _ (cc _) ?_ | with_reducible refine EqE.mk _ (ey _ (by omega)) ?_ | with_reducible refine EqE.mk _ (a7 _ (by omega)) ?_ | with_reducible refine EqE.mk _ (ar _ (by omega)) ?_) | ((with_reducible refine EqE.idF ?_); refine EqE.mk _ (aj _ 4294967296 _ _ rfl) ?_) | ((with_reducible refine EqE.idS ?_); refine EqE.mk _ (bo _ _ _ _ (by first | with_reducible exact af _ | with_reducible exact ab _ | exact af _ | exact ab _ | rfl) (by first | omega | (simp only [List.length_set]; omega)) (by omega)) ?_) | refine Cd.om ?_)
  ·rename_i h3
   refine ⟨_, ⟨k + 1, _, _, rfl, by omega, ?_, ?_, ?_, ?_, rfl, rfl⟩, by omega⟩
   ·omega
   ·simp [hl]
   ·have h4 := adg l (i + k) (UInt32.ofNat ((c + ((l.getD (i + k) 0).toNat + x * (B.getD k 0).toNat)) % 4294967296)) (by omega)
    rw [toNat_ofNat (by omega)] at h4
    have h5 := ly (Pw (i + k)) (c + ((l.getD (i + k) 0).toNat + x * (B.getD k 0).toNat))
    rw [bp, show i + (k + 1) = i + k + 1 from rfl, fk]
    generalize (B.getD k 0).toNat = y at *
    have h6 : Pw i * (x * (nv (B.take k) + Pw k * y)) = Pw i * (x * nv (B.take k)) + Pw (i + k) * (x * y) := by
     rw [rp]; grind
    rw [h6]
    rw [Nat.mul_add, Nat.mul_add] at h5
    omega
   ·intro j hj
    rw [getD_set_ne (by omega)]; exact hz j hj
  ·rename_i h3
   have e : k = B.length := by omega
   subst e
   refine ⟨_, ⟨n, i + 1, _, rfl, hn, by omega, ?_, ?_, ?_, rfl, rfl⟩, by omega⟩
   ·simp [hl]
   ·rw [q7 (by omega) (hz _ (by omega)) (by omega), bp, hxe]
    rw [List.take_of_length_le (Nat.le_refl _)] at hv
    rw [Nat.mod_eq_of_lt hc, hv]
    grind
   ·intro j hj
    rw [getD_set_ne (by omega)]; exact hz j (by omega)
 ·rename_i h0
  show sl _ = sl _
  rw [List.take_of_length_le (by omega), hvA, hvB] at hv
  rw [hv]
end Go.Ev.Ar

namespace Go.Ev.Ar
open Go Go.Ev Go.Proofs
theorem amd (a : List UInt32) (n : Int) (ha : a.length < 2^30) (hn : n ≤ 2^30) : Sim Tryd.prog G0 false 45 [sl a, .int .i64 n] (sl (ofN (nv a * 2 ^ n.toNat))) := by
 refine cl ay Tryd.func45 ?_
 have h1 := ee a
 repeat' ((conv => whnf); first | refine aw.data ?_ | refine fv.mk _ _ (fm _ (by omega)) ?_ | refine rgE ?_ | refine Cd.mk rfl ?_ | with_reducible refine Br.dec (fun _ => ?_) (fun _ => ?_) | refine Res.mk ?_ | ((with_reducible refine EqE.idW ?_); first | refine EqE.mk _ (er _ 32 (by omega)) ?_ | with_reducible refine EqE.mk _ (a7 _ (by omega)) ?_ | with_reducible refine EqE.mk _ (ar _ (by omega)) ?_) | ((with_reducible refine EqE.idM ?_); refine EqE.mk _ (bm _ 32) ?_) | ((with_reducible refine EqE.idI ?_); refine EqE.mk _ (ib _) ?_) | ((with_reducible refine EqE.idR ?_); refine EqE.mk _ (ca _) ?_) | refine Cd.om ?_)
 ·rename_i h
  have : nv a = 0 := cw.1 (by omega)
  show sl _ = sl []
  rw [this, Nat.zero_mul, dj]
 rename_i h
 generalize hA : ofN (nv a) = A at *
 have hvA : nv A = nv a := by rw [← hA, di]
 have hs : n.toNat % 32 < 32 := Nat.mod_lt _ (by decide)
 have hN : n.toNat = 32 * (n.toNat / 32) + n.toNat % 32 := (Nat.div_add_mod _ _).symm
 have hN2 : n.toNat ≤ 2^30 := by omega
 generalize hqe : n.toNat / 32 = q at *
 generalize hse : n.toNat % 32 = s at *
 skip
 refine ⟨[], [0,5,6,7,29,30], [25], fun m xs h => ∃ (n i : Nat) (l : List UInt32), m = A.length + 1 - i ∧ n = A.length + q + 1 ∧ i ≤ A.length + 1 ∧ l.length = n ∧ nv l + Pw (q + i) * (at_ A (i - 1) * 2 ^ s / 4294967296) = Pw q * (nv (A.take i) * 2 ^ s) ∧ (∀ j, q + i ≤ j → (l.getD j 0).toNat = 0) ∧
  xs = [.d (sl A), .d (.int .i64 q), .d (.int .i64 s), .own 25 0 n 1, .d (.int .i64 ((n - q : Int).toNat : Nat)), .d (.int .i64 i)] ∧ h = [(25, false, la l)],
  ⟨_, _, _, ⟨.inl rfl, rfl, rfl, by first | rfl | (repeat first | exact all_nil _ | refine cz _ _ _ _ _ ?_)⟩, _, 0, _, rfl, ?_, by omega, by simp, ?_, fun j _ => n5 _ _, rfl, rfl⟩, ?_⟩
 ·omega
 ·rw [show at_ A ((0 : Nat) - 1 : Int) = 0 from rfl, dw]; simp
 rintro m xs h ⟨n, i, l, rfl, hn, hi, hl, hv, hz, rfl, rfl⟩
 have hx1 := sr A i
 have hx2 := sr A (i - 1)
 have hy1 := aac hx1 hs
 have hy2 := aac hx2 hs
 repeat' ((conv => whnf); first | refine aw.data ?_ | refine fv.mk _ _ (y3 _ _) ?_ | refine fv.mk _ _ (fm _ (by omega)) ?_ | refine rgE ?_ | refine Cd.mk rfl ?_ | with_reducible refine Br.dec (fun _ => ?_) (fun _ => ?_) | refine Res.mk ?_ | refine DsE.mk (ba _) rfl ?_ | refine ai.cu _ _ ?_ | ((with_reducible refine EqE.idW ?_); first | with_reducible refine EqE.mk _ (et _ _ (by omega) (by omega)) ?_ | with_reducible refine EqE.mk _ (ig _ _ (by omega) (by omega)) ?_ | with_reducible refine EqE.mk _ (cc _) ?_ | with_reducible refine EqE.mk _ (a7 _ (by omega)) ?_ | with_reducible refine EqE.mk _ (ar _ (by omega)) ?_ | with_reducible refine EqE.mk _ (ah (by omega) (by omega)) ?_) | ((with_reducible refine EqE.idF ?_); refine EqE.mk _ (aj _ 4294967296 _ _ rfl) ?_) | ((with_reducible refine EqE.idS ?_); refine EqE.mk _ (bo _ _ _ _ (by first | with_reducible exact af _ | with_reducible exact ab _ | exact af _ | exact ab _ | rfl) (by first | omega | (simp only [List.length_set]; omega)) (by omega)) ?_) | ((with_reducible refine EqE.idL ?_); refine EqE.mk _ (ax _ _ _ _ (by omega) (by omega) rfl) ?_) | refine Cd.om ?_)
 ·rename_i h0
  refine ⟨_, ⟨n, i + 1, _, rfl, hn, by omega, ?_, ?_, ?_, rfl, rfl⟩, by omega⟩
  ·simp [hl]
  ·have hc := ym hx2 hs
   have hd := ae3 (x := at_ A i) hs hc
   rw [adn hc, q7 (by omega) (hz _ (by omega)) (by omega), bp, ← nm, show q + (i + 1) = q + i + 1 from rfl, fk, show ((i + 1 : Nat) : Int) - 1 = i by omega, ← hd]
   have h5 := ly (Pw (q + i)) (at_ A i * 2 ^ s + at_ A (i - 1) * 2 ^ s / 4294967296)
   have h6 : Pw q * ((nv (A.take i) + Pw i * at_ A i) * 2 ^ s) = Pw q * (nv (A.take i) * 2 ^ s) + Pw (q + i) * (at_ A i * 2 ^ s) := by
    rw [rp]; grind
   rw [h6]
   rw [Nat.mul_add] at h5
   omega
  ·intro j hj
   rw [getD_set_ne (by omega)]; exact hz j (by omega)
 ·rename_i h0
  have e : i = A.length + 1 := by omega
  have e0 : at_ A (i - 1) = 0 := by rw [show (i : Int) - 1 = ((A.length : Nat) : Int) by omega, nm, n4 (by omega)]
  rw [e0, List.take_of_length_le (by omega), hvA] at hv
  show sl _ = sl _
  rw [hN, ← uq, show nv l = Pw q * (nv a * 2 ^ s) by simpa using hv]
  congr 2; grind
theorem ag3 (a : List UInt32) (n : Int) (ha : a.length < 2^30) (hn : n ≤ 2^60) : Sim Tryd.prog G0 false 48 [sl a, .int .i64 n] (sl (ofN (nv a / 2 ^ n.toNat))) := by
 refine cl ay Tryd.func48 ?_
 have h1 := ee a
 repeat' ((conv => whnf); first | refine aw.data ?_ | refine fv.mk _ _ (fm _ (by omega)) ?_ | refine rgE ?_ | refine Cd.mk rfl ?_ | with_reducible refine Br.dec (fun _ => ?_) (fun _ => ?_) | refine Res.mk ?_ | ((with_reducible refine EqE.idW ?_); first | refine EqE.mk _ (er _ 32 (by omega)) ?_ | with_reducible refine EqE.mk _ (ah (by omega) (by omega)) ?_) | ((with_reducible refine EqE.idM ?_); refine EqE.mk _ (bm _ 32) ?_) | ((with_reducible refine EqE.idI ?_); refine EqE.mk _ (ib _) ?_) | ((with_reducible refine EqE.idR ?_); refine EqE.mk _ (ca _) ?_) | refine Cd.om ?_)
 ·rename_i h
  have h2 := gk (ofN (nv a))
  rw [di] at h2
  have : nv a < 2 ^ n.toNat := Nat.lt_of_lt_of_le h2 (by rw [kb]; exact Nat.pow_le_pow_right (by decide) (by omega))
  show sl _ = sl []
  rw [Nat.div_eq_of_lt this, dj]
 rename_i h
 generalize hA : ofN (nv a) = A at *
 have hvA : nv A = nv a := by rw [← hA, di]
 have hs : n.toNat % 32 < 32 := Nat.mod_lt _ (by decide)
 have hN : n.toNat = 32 * (n.toNat / 32) + n.toNat % 32 := (Nat.div_add_mod _ _).symm
 generalize hqe : n.toNat / 32 = q at *
 generalize hse : n.toNat % 32 = s at *
 skip
 refine ⟨[], [0,5,6,7,27,28], [25], fun m xs h => ∃ (n i : Nat) (l : List UInt32), m = n - i ∧ n + q = A.length ∧ i ≤ n ∧ l.length = n ∧ nv l = (nv (A.drop q) / 2 ^ s) % Pw i ∧ (∀ j, i ≤ j → (l.getD j 0).toNat = 0) ∧
  xs = [.d (sl A), .d (.int .i64 q), .d (.int .i64 s), .own 25 0 n 1, .d (.int .i64 n), .d (.int .i64 i)] ∧ h = [(25, false, la l)],
  ⟨_, _, _, ⟨.inl rfl, rfl, rfl, by first | rfl | (repeat first | exact all_nil _ | refine cz _ _ _ _ _ ?_)⟩, _, 0, _, rfl, ?_, by omega, by simp, ?_, fun j _ => n5 _ _, rfl, rfl⟩, ?_⟩
 ·omega
 ·rw [dw, ai2, Nat.mod_one]
 rintro m xs h ⟨n, i, l, rfl, hn, hi, hl, hv, hz, rfl, rfl⟩
 have hx1 := sr A ((q + i : Nat) : Int)
 have hx2 := sr A ((q + i + 1 : Nat) : Int)
 repeat' ((conv => whnf); first | refine aw.data ?_ | refine fv.mk _ _ (y3 _ _) ?_ | refine fv.mk _ _ (fm _ (by omega)) ?_ | refine rgE ?_ | refine Cd.mk rfl ?_ | with_reducible refine Br.dec (fun _ => ?_) (fun _ => ?_) | refine Res.mk ?_ | refine DsE.mk (ba _) rfl ?_ | refine ai.cu _ _ ?_ | ((with_reducible refine EqE.idW ?_); first | with_reducible refine EqE.mk _ (bx _ (by omega)) ?_ | with_reducible refine EqE.mk _ (ig _ _ (by omega) (by omega)) ?_ | with_reducible refine EqE.mk _ (cc _) ?_ | with_reducible refine EqE.mk _ (a7 _ (by omega)) ?_ | with_reducible refine EqE.mk _ (ar _ (by omega)) ?_) | ((with_reducible refine EqE.idF ?_); with_reducible refine EqE.mk _ (cg _ _ (by omega)) ?_) | ((with_reducible refine EqE.idS ?_); refine EqE.mk _ (bo _ _ _ _ (by first | with_reducible exact af _ | with_reducible exact ab _ | exact af _ | exact ab _ | rfl) (by first | omega | (simp only [List.length_set]; omega)) (by omega)) ?_) | ((with_reducible refine EqE.idL ?_); refine EqE.mk _ (ax _ _ _ _ (by omega) (by omega) rfl) ?_) | refine Cd.om ?_)
 ·rename_i h0
  refine ⟨_, ⟨n, i + 1, _, rfl, hn, by omega, ?_, ?_, ?_, rfl, rfl⟩, by omega⟩
  ·simp [hl]
  ·rw [ah0 hx1, q7 (by omega) (hz _ (by omega)) (by omega), nm, nm, aco (z := nv (A.drop (q + i + 1 + 1))) hs, ← gj, ← gj, hv, fk, Nat.mul_comm 4294967296, Nat.mod_mul,
    fj, fj, rp]
   have e : Pw q * Pw i * 2 ^ s = Pw q * 2 ^ s * Pw i := by grind
   simp only [Nat.div_div_eq_div_mul, e]
  ·intro j hj
   rw [getD_set_ne (by omega)]; exact hz j (by omega)
 ·rename_i h0
  have e : i = n := by omega
  have h2 := gk (A.drop q)
  rw [List.length_drop, show A.length - q = n by omega] at h2
  have h3 := Nat.div_le_self (nv (A.drop q)) (2 ^ s)
  show sl _ = sl _
  rw [hv, e, Nat.mod_eq_of_lt (by omega), fj, hvA, Nat.div_div_eq_div_mul, uq, ← hN]
theorem vq (n : Int) : Sim Tryd.prog G0 true 46 [.int .i64 n] (.int .i64 (min (max n 0) 100000)) := by
 refine cl ay Tryd.func46 ?_
 repeat' ((conv => whnf); first | refine rgE ?_ | refine Res.mk ?_ | ((with_reducible refine EqE.idI ?_); first | refine EqE.mk _ (ib _) ?_ | refine EqE.mk _ (min_eq _ _) ?_))
 show D.int _ _ = D.int _ _
 congr 1; omega
theorem ae4 (a : List UInt32) (n : Int) (ha : a.length < 2^30) (hn : n ≤ 100000) : Sim Tryd.prog G0 false 29 [sl a, .int .i64 n] (sl (ofN (nv a * 2 ^ n.toNat))) := by
 refine cl ay Tryd.func29 ?_
 repeat' ((conv => whnf); first | refine aw.data ?_ | refine fv.mk _ _ (vq _) ?_ | refine fv.mk _ _ (amd _ _ (by omega) (by omega)) ?_ | refine rgE ?_ | refine Res.mk ?_)
 show sl _ = sl _
 rw [show (min (max n 0) 100000).toNat = n.toNat by omega]
theorem akd (a : List UInt32) (n : Int) (ha : a.length < 2^30) (hn : n ≤ 100000) : Sim Tryd.prog G0 false 36 [sl a, .int .i64 n] (sl (ofN (nv a / 2 ^ n.toNat))) := by
 refine cl ay Tryd.func36 ?_
 repeat' ((conv => whnf); first | refine aw.data ?_ | refine fv.mk _ _ (vq _) ?_ | refine fv.mk _ _ (ag3 _ _ (by omega) (by omega)) ?_ | refine rgE ?_ | refine Res.mk ?_)
 show sl _ = sl _
 rw [show (min (max n 0) 100000).toNat = n.toNat by omega]
end Go.Ev.Ar

namespace Go.Ev.Ar
open Go Go.Ev Go.Proofs
theorem ael (n : Nat) : ((ofN n).length : Int) > 0 ↔ 0 < n := by
 have := cw (n := n); omega
theorem ot (b : Bool) (l : List UInt32) (hl : l.length < 2^32) : Sim Tryd.prog G0 false 27 [.bool b, sl l] (zD (zv b l)) := by
 refine cl ay Tryd.func27 ?_
 repeat' ((conv => whnf); first | refine aw.data ?_ | refine cE (aip _ (by omega)) ?_ | refine rgE ?_ | refine Cd.mk rfl ?_ | refine Br.t ?_ | refine Br.f ?_ | refine Br.mk (fun _ => ?_) (fun _ => ?_) | refine TkE.fL ?_ | refine Res.mk ?_ | with_reducible refine EqE.fP ?_ | refine Cd.ol ?_)
 all_goals
  show zD _ = D.agg [D.bool _, sl (ofN (nv l))]
  refine (alc ?_).symm
  simp only [ael, *, Bool.true_and, Bool.false_and]
theorem gf {x : D} {n : Int} (hx : ZR x n) : Sim Tryd.prog G0 false 12 [x] (zD n) := by
 obtain ⟨b, l, hl⟩ := hx
 refine cl ay Tryd.func12 ?_
 repeat' ((conv => whnf); first | refine aw.data ?_ | refine cE (ot _ _ (by omega)) ?_ | refine rgE ?_ | refine Cd.mk rfl ?_ | refine ao.mk _ rfl ?_ | refine TkE.fL ?_ | refine Res.mk ?_ | with_reducible refine EqE.fP ?_ | refine Cd.ol ?_)
 rfl
theorem agj {x : D} {n : Int} (hx : ZR x n) : Sim Tryd.prog G0 true 15 [x] (.int .i64 (Int.sign n)) := by
 obtain ⟨b, l, hl⟩ := hx
 refine cl ay Tryd.func15 ?_
 have hmin : ∀ k : Nat, k ≠ 0 → (if false = true then (if (1 : Int) > ((ofN k).length : Int) then (1 : Int) else ((ofN k).length : Int)) else (if (1 : Int) < ((ofN k).length : Int) then (1 : Int) else ((ofN k).length : Int))) = 1 := by
  intro k hk
  have h := cw (n := k)
  simp only [Bool.false_eq_true, if_false]; split <;> omega
 rcases Int.lt_trichotomy (zv b l) 0 with h | h | h
 ·have h1 : dm (zv b l) = true := decide_eq_true h
  rw [Int.sign_eq_neg_one_of_neg h]
  repeat' ((conv => whnf); first | refine aw.data ?_ | refine cE (gf (.mk _ _ hl)) ?_ | refine rgE ?_ | refine Cd.mk rfl ?_ | refine Br.mk (fun _ => ?_) (fun _ => ?_) | refine ao.mk _ rfl ?_ | refine TkE.fL ?_ | refine Res.mk ?_ | ((with_reducible refine EqE.idW ?_); refine EqE.mk _ (ah (by omega) (by omega)) ?_) | ((with_reducible refine EqE.idI ?_); refine EqE.mk 1 (hmin _ (by omega)) ?_) | with_reducible refine EqE.fP ?_ | refine Cd.ol ?_ | refine Cd.os ?_)
  ·rfl
  ·rename_i h2; exact absurd (h1.symm.trans h2) (by decide)
 ·have h1 : dm (zv b l) = false := decide_eq_false (by omega)
  have h3 : ((ofN (zv b l).natAbs).length : Int) = 0 := by rw [h, show Int.natAbs 0 = 0 from rfl, dj]; rfl
  rw [show Int.sign (zv b l) = 0 by rw [h]; rfl]
  repeat' ((conv => whnf); first | refine aw.data ?_ | refine cE (gf (.mk _ _ hl)) ?_ | refine rgE ?_ | refine Cd.mk rfl ?_ | refine Br.mk (fun _ => ?_) (fun _ => ?_) | refine ao.mk _ rfl ?_ | refine TkE.fL ?_ | refine Res.mk ?_ | ((with_reducible refine EqE.idW ?_); with_reducible refine EqE.mk _ (ar _ (by omega)) ?_) | ((with_reducible refine EqE.idI ?_); refine EqE.mk 0 (by rw [h3]; rfl) ?_) | with_reducible refine EqE.fP ?_ | refine Cd.ol ?_ | refine Cd.os ?_)
  ·rename_i h2; exact absurd (h1.symm.trans h2) (by decide)
  ·rfl
 ·have h1 : dm (zv b l) = false := decide_eq_false (by omega)
  rw [Int.sign_eq_one_of_pos h]
  repeat' ((conv => whnf); first | refine aw.data ?_ | refine cE (gf (.mk _ _ hl)) ?_ | refine rgE ?_ | refine Cd.mk rfl ?_ | refine Br.mk (fun _ => ?_) (fun _ => ?_) | refine ao.mk _ rfl ?_ | refine TkE.fL ?_ | refine Res.mk ?_ | ((with_reducible refine EqE.idW ?_); refine EqE.mk _ (ah (by omega) (by omega)) ?_) | ((with_reducible refine EqE.idI ?_); refine EqE.mk 1 (hmin _ (by omega)) ?_) | with_reducible refine EqE.fP ?_ | refine Cd.ol ?_ | refine Cd.os ?_)
  ·rename_i h2; exact absurd (h1.symm.trans h2) (by decide)
  ·rfl
theorem ab4 {x y : D} {m n : Int} (hx : ZR x m) (hy : ZR y n) : Sim Tryd.prog G0 false 17 [x, y] (zD (m * n)) := by
 obtain ⟨b, l, hl⟩ := hx
 obtain ⟨c, k, hk⟩ := hy
 refine cl ay Tryd.func17 ?_
 have e1 := cj.2 (show nv l * nv k < Pw 8388608 by
  have h1 := gk l; have h2 := gk k; have h3 := im hl; have h4 := im hk
  rw [show 8388608 = 4194304 + 4194304 from rfl, rp]
  exact Nat.mul_lt_mul'' (by omega) (by omega))
 repeat' ((conv => whnf); first | refine cE (aen _ _ (by omega) (by omega)) ?_ | refine cE (ot _ _ (by omega)) ?_ | refine rgE ?_ | refine Cd.mk rfl ?_ | refine ao.mk _ rfl ?_ | refine TkE.fL ?_ | refine Res.mk ?_ | with_reducible refine EqE.fP ?_ | refine Cd.ol ?_)
 show zD _ = zD (zv (!(b == c)) (ofN (nv l * nv k)))
 congr 1; unfold zv; rw [di, Int.natCast_mul]; cases b <;> cases c <;> simp [Int.neg_mul, Int.mul_neg]
theorem zo (x y : Nat) : [A.d (D.int .u32 ((x % 4294967296 : Nat) : Int)), A.d (D.int .u32 ((y % 4294967296 : Nat) : Int))] = (ba [UInt32.ofNat x, UInt32.ofNat y]).map A.d := by
 simp [ba]
theorem nv2 {x : Nat} (h : x < 18446744073709551616) : nv [UInt32.ofNat x, UInt32.ofNat (x / 4294967296)] = x := by
 simp only [ef, mr, UInt32.toNat_ofNat']; omega
theorem aag (n : Int) (h1 : -9223372036854775808 ≤ n) (h2 : n ≤ 9223372036854775807) : Sim Tryd.prog G0 false 13 [.int .i64 n] (zD n) := by
 refine cl ay Tryd.func13 ?_
 rcases Int.lt_or_le n 0 with h | h
 ·have w1 : IntKind.u64.wrap n = ((18446744073709551616 - n.natAbs : Nat) : Int) := by
   have e : IntKind.u64.wrap n = if (false && decide (n % 2 ^ 64 ≥ 2 ^ 63)) = true then n % 2 ^ 64 - 2 ^ 64 else n % 2 ^ 64 := rfl
   rw [e, if_neg (by simp)]; omega
  have w2 : IntKind.u64.wrap (0 - ((18446744073709551616 - n.natAbs : Nat) : Int)) = ((n.natAbs : Nat) : Int) := by
   generalize hx : (0 - ((18446744073709551616 - n.natAbs : Nat) : Int)) = x
   have e : IntKind.u64.wrap x = if (false && decide (x % 2 ^ 64 ≥ 2 ^ 63)) = true then x % 2 ^ 64 - 2 ^ 64 else x % 2 ^ 64 := rfl
   rw [e, if_neg (by simp)]; omega
  repeat' ((conv => whnf); first | refine aw.data ?_ | refine cE (ot _ _ (by simp)) ?_ | refine DsE.mk (ba [UInt32.ofNat n.natAbs, UInt32.ofNat (n.natAbs / 4294967296)]) (zo _ _) ?_ | refine rgE ?_ | refine Cd.mk rfl ?_ | with_reducible refine Br.dec (fun _ => ?_) (fun _ => ?_) | refine TkE.fL ?_ | refine Res.mk ?_ | ((with_reducible refine EqE.idW ?_); first | refine EqE.mk _ w1 ?_ | refine EqE.mk _ w2 ?_ | with_reducible refine EqE.mk _ (cc _) ?_) | ((with_reducible refine EqE.idF ?_); first | with_reducible refine EqE.mk _ (cg _ _ (by omega)) ?_ | refine EqE.mk _ (aj _ 4294967296 _ _ rfl) ?_) | with_reducible refine EqE.fP ?_ | ((with_reducible refine EqE.idL ?_); refine EqE.mk (sl [UInt32.ofNat n.natAbs, UInt32.ofNat (n.natAbs / 4294967296)]) rfl ?_) | refine Cd.ol ?_ | refine Cd.om ?_)
  ·show zD _ = zD (zv (decide (n < 0)) _)
   rw [decide_eq_true h, ae9, nv2 (by omega)]; congr 1; omega
  ·omega
 ·have w1 : IntKind.u64.wrap n = ((n.natAbs : Nat) : Int) := by rw [wrap_u64 h (by omega)]; omega
  repeat' ((conv => whnf); first | refine aw.data ?_ | refine cE (ot _ _ (by simp)) ?_ | refine DsE.mk (ba [UInt32.ofNat n.natAbs, UInt32.ofNat (n.natAbs / 4294967296)]) (zo _ _) ?_ | refine rgE ?_ | refine Cd.mk rfl ?_ | with_reducible refine Br.dec (fun _ => ?_) (fun _ => ?_) | refine TkE.fL ?_ | refine Res.mk ?_ | ((with_reducible refine EqE.idW ?_); first | refine EqE.mk _ w1 ?_ | with_reducible refine EqE.mk _ (eg _ _ (by omega) (by omega)) ?_ | with_reducible refine EqE.mk _ (cc _) ?_) | ((with_reducible refine EqE.idF ?_); first | with_reducible refine EqE.mk _ (cg _ _ (by omega)) ?_ | refine EqE.mk _ (aj _ 4294967296 _ _ rfl) ?_) | with_reducible refine EqE.fP ?_ | ((with_reducible refine EqE.idL ?_); refine EqE.mk (sl [UInt32.ofNat n.natAbs, UInt32.ofNat (n.natAbs / 4294967296)]) rfl ?_) | refine Cd.ol ?_ | refine Cd.om ?_)
  ·omega
  ·show zD _ = zD (zv (decide (n < 0)) _)
   rw [decide_eq_false (by omega), ab5, nv2 (by omega)]; congr 1; omega
theorem alv {x k : Nat} (h : x < 2 ^ (32 * k)) : (ofN x).length ≤ k := cj.2 (by rw [kb]; exact h)
theorem ajw {l : List UInt32} {n : Int} {k j : Nat} (hl : l.length ≤ k) (hn : n ≤ 32 * j) : (ofN (nv l * 2 ^ n.toNat)).length ≤ k + j := by
 refine alv ?_
 have h1 := gk l
 rw [kb] at h1
 rw [Nat.mul_add, Nat.pow_add]
 exact Nat.mul_lt_mul_of_lt_of_le (Nat.lt_of_lt_of_le h1 (Nat.pow_le_pow_right (by decide) (by omega))) (Nat.pow_le_pow_right (by decide) (by omega)) (Nat.pow_pos (by decide))
theorem ame (b : Bool) (l : List UInt32) (k : Nat) : zv b (ofN (nv l * 2 ^ k)) = zv b l * 2 ^ k := by
 unfold zv; rw [di, Int.natCast_mul, Int.natCast_pow]; cases b
 ·rfl
 ·simp only [if_true, Int.neg_mul]; rfl
end Go.Ev.Ar

namespace Go.Ev.Ar
open Go Go.Ev Go.Proofs
theorem pb {x : D} {n : Int} (hx : ZR x n) : Sim Tryd.prog G0 false 10 [x] (zD n) := by
 obtain ⟨b, l, hl⟩ := hx
 refine cl ay Tryd.func10 ?_
 repeat' ((conv => whnf); first | refine aw.data ?_ | refine cE (yk _ (by omega)) ?_ | refine rgE ?_ | refine Cd.mk rfl ?_ | refine Br.t ?_ | refine Br.f ?_ | refine Br.mk (fun _ => ?_) (fun _ => ?_) | refine ao.mk _ rfl ?_ | refine TkE.fL ?_ | refine Res.mk ?_ | with_reducible refine EqE.fP ?_ | refine Cd.ol ?_)
 all_goals
  show zD _ = D.agg [D.bool _, sl (ofN (nv l))]
  refine (alc ?_).symm
  simp only [ael, *, Bool.true_and, Bool.false_and]
theorem rh {m n : Int} (hm : Zt 134217728 m) (hn : Zt 134217728 n) : Sim Tryd.prog G0 true 9 [zD m, zD n] (.bool (decide (m = n))) := by
 have e1 := hm.len (k := 4194304) (by decide)
 have e2 := hn.len (k := 4194304) (by decide)
 refine cl ay Tryd.func9 ?_
 repeat' ((conv => whnf); first | refine aw.data ?_ | refine cE (af0 _ _ (by omega) (by omega)) ?_ | refine rgE ?_ | refine Cd.mk rfl ?_ | refine Br.t ?_ | refine Br.f ?_ | refine Br.mk (fun _ => ?_) (fun _ => ?_) | refine ao.mk _ rfl ?_ | refine Res.mk ?_)
 ·rename_i h
  show D.bool _ = D.bool _
  congr 1
  refine decide_eq_decide.2 ⟨fun e => by rw [e], fun e => ?_⟩
  have h1 := aj5 e
  have h2 := eq_of_beq h
  have h3 : m < 0 ↔ n < 0 := by simpa [dm] using h2
  omega
 ·rename_i h
  show D.bool _ = D.bool _
  congr 1
  refine decide_eq_false fun e => ?_
  subst e; simp at h
theorem af1 {x : D} {n : Int} (hx : ZR x n) : Sim Tryd.prog G0 true 11 [x] (.int .i64 (Int.sign n)) := by
 obtain ⟨b, l, hl⟩ := hx
 refine cl ay Tryd.func11 ?_
 repeat' ((conv => whnf); first | refine aw.data ?_ | refine cE (pb (.mk _ _ hl)) ?_ | refine rgE ?_ | refine Cd.mk rfl ?_ | with_reducible refine Br.dec (fun _ => ?_) (fun _ => ?_) | refine Br.mk (fun _ => ?_) (fun _ => ?_) | refine ao.mk _ rfl ?_ | refine TkE.fL ?_ | refine Res.mk ?_ | with_reducible refine EqE.fP ?_ | refine Cd.ol ?_)
 all_goals show D.int _ _ = D.int _ _
 ·rename_i h
  have h1 := cw (n := (zv b l).natAbs)
  have h2 : zv b l = 0 := by omega
  rw [h2]; rfl
 ·rename_i h h2
  rw [Int.sign_eq_neg_one_of_neg (of_decide_eq_true h2)]
 ·rename_i h h2
  have h1 := cw (n := (zv b l).natAbs)
  have h2 := of_decide_eq_false h2
  rw [Int.sign_eq_one_of_pos (by omega)]
theorem adv (n : Int) (h1 : -9223372036854775808 ≤ n) (h2 : n ≤ 9223372036854775807) : Sim Tryd.prog G0 false 19 [.int .i64 n] (zD n) := by
 refine cl ay Tryd.func19 ?_
 rcases Int.lt_or_le n 0 with h | h
 ·have w1 : IntKind.u64.wrap n = ((18446744073709551616 - n.natAbs : Nat) : Int) := by
   have e : IntKind.u64.wrap n = if (false && decide (n % 2 ^ 64 ≥ 2 ^ 63)) = true then n % 2 ^ 64 - 2 ^ 64 else n % 2 ^ 64 := rfl
   rw [e, if_neg (by simp)]; omega
  have w2 : IntKind.u64.wrap (0 - ((18446744073709551616 - n.natAbs : Nat) : Int)) = ((n.natAbs : Nat) : Int) := by
   generalize hx : (0 - ((18446744073709551616 - n.natAbs : Nat) : Int)) = x
   have e : IntKind.u64.wrap x = if (false && decide (x % 2 ^ 64 ≥ 2 ^ 63)) = true then x % 2 ^ 64 - 2 ^ 64 else x % 2 ^ 64 := rfl
   rw [e, if_neg (by simp)]; omega
  repeat' ((conv => whnf); first | refine aw.data ?_ | refine cE (pb (.mk _ _ (by simp))) ?_ | refine DsE.mk (ba [UInt32.ofNat n.natAbs, UInt32.ofNat (n.natAbs / 4294967296)]) (zo _ _) ?_ | refine rgE ?_ | refine Cd.mk rfl ?_ | with_reducible refine Br.dec (fun _ => ?_) (fun _ => ?_) | refine TkE.fL ?_ | refine Res.mk ?_ | ((with_reducible refine EqE.idW ?_); first | refine EqE.mk _ w1 ?_ | refine EqE.mk _ w2 ?_ | with_reducible refine EqE.mk _ (cc _) ?_) | ((with_reducible refine EqE.idF ?_); first | with_reducible refine EqE.mk _ (cg _ _ (by omega)) ?_ | refine EqE.mk _ (aj _ 4294967296 _ _ rfl) ?_) | with_reducible refine EqE.fP ?_ | ((with_reducible refine EqE.idL ?_); refine EqE.mk (sl [UInt32.ofNat n.natAbs, UInt32.ofNat (n.natAbs / 4294967296)]) rfl ?_) | refine Cd.ol ?_ | refine Cd.om ?_)
  ·show zD _ = zD (zv (decide (n < 0)) _)
   rw [decide_eq_true h, ae9, nv2 (by omega)]; congr 1; omega
  ·omega
 ·have w1 : IntKind.u64.wrap n = ((n.natAbs : Nat) : Int) := by rw [wrap_u64 h (by omega)]; omega
  repeat' ((conv => whnf); first | refine aw.data ?_ | refine cE (pb (.mk _ _ (by simp))) ?_ | refine DsE.mk (ba [UInt32.ofNat n.natAbs, UInt32.ofNat (n.natAbs / 4294967296)]) (zo _ _) ?_ | refine rgE ?_ | refine Cd.mk rfl ?_ | with_reducible refine Br.dec (fun _ => ?_) (fun _ => ?_) | refine TkE.fL ?_ | refine Res.mk ?_ | ((with_reducible refine EqE.idW ?_); first | refine EqE.mk _ w1 ?_ | with_reducible refine EqE.mk _ (eg _ _ (by omega) (by omega)) ?_ | with_reducible refine EqE.mk _ (cc _) ?_) | ((with_reducible refine EqE.idF ?_); first | with_reducible refine EqE.mk _ (cg _ _ (by omega)) ?_ | refine EqE.mk _ (aj _ 4294967296 _ _ rfl) ?_) | with_reducible refine EqE.fP ?_ | ((with_reducible refine EqE.idL ?_); refine EqE.mk (sl [UInt32.ofNat n.natAbs, UInt32.ofNat (n.natAbs / 4294967296)]) rfl ?_) | refine Cd.ol ?_ | refine Cd.om ?_)
  ·omega
  ·show zD _ = zD (zv (decide (n < 0)) _)
   rw [decide_eq_false (by omega), ab5, nv2 (by omega)]; congr 1; omega
end Go.Ev.Ar

-- STR
namespace Go.Ev.Ar
open Go Go.Ev Go.Proofs
theorem agv {d : Nat} (h : d < 10) : UInt8.ofNat (48 + d) = ch d := by unfold ch; rw [if_pos h]
theorem ahw {k m : Nat} (h : k ≤ m) {c : Nat} (hm : (ofN m).length < c) : (ofN k).length < c := by
 have h1 : (ofN m).length ≤ c - 1 := by omega
 rw [cj] at h1
 have h2 : (ofN k).length ≤ c - 1 := cj.2 (by omega)
 omega
theorem afi (b : Nat) (hb : 2 ≤ b) {n k : Nat} (h : (ofN n).length ≤ k) : (dg b n).length ≤ 32 * k := by
 refine jr hb _ _ (Nat.lt_of_lt_of_le (cj.1 h) ?_)
 rw [kb]
 exact Nat.pow_le_pow_left hb _
end Go.Ev.Ar

-- STR
namespace Go.Ev.Ar
open Go Go.Ev Go.Proofs
theorem adi {l : List Nat} (h : ∀ d ∈ l, d < 10) : (ofN (dv 10 l)).length ≤ l.length := by
 refine cj.2 (Nat.lt_of_lt_of_le (vi h) ?_)
 rw [kb, Nat.pow_mul]
 exact Nat.pow_le_pow_left (by omega) _
theorem vd {l : List UInt8} (h : ∀ x ∈ l, jf x = true) : ∀ d ∈ dgs l, d < 10 := by
 intro d hd
 simp only [dgs, List.mem_map] at hd
 obtain ⟨x, hx, rfl⟩ := hd
 have := h x hx
 simp only [jf, Bool.and_eq_true, decide_eq_true_eq] at this
 omega
end Go.Ev.Ar

namespace Go.Proofs
open Go.Shelf
def Tryd.s9 : Go.Shelf.Ren := ⟨fun | 169 => 24 | n => n, fun | 70 => 46 | 9 => 9 | 0 => 0 | 72 => 48 | 37 => 30 | 127 => 71 | 3 => 3 | 5 => 5 | n => n, fun | n => n⟩
theorem Tryd.ajq : Go.Proofs.Lays.n169 Tryd.prog Tryd.s9 := {
 mixed := by kernel_rfl
 f169 := Tryd.func24.trans (congrArg some (by kernel_rfl))
 t0 := Tryd.underlying0
 a0 := Tryd.isAgg0
 z0 := Tryd.sizeOf0
 v0 := Tryd.zeroValue0
 t3 := Tryd.underlying3
 a3 := Tryd.isAgg3
 z3 := Tryd.sizeOf3
 v3 := Tryd.zeroValue3
 t9 := Tryd.underlying9
 a9 := Tryd.isAgg9
 z9 := Tryd.sizeOf9
 v9 := Tryd.zeroValue9
 t37 := Tryd.underlying30
 a37 := Tryd.isAgg30
 z37 := Tryd.sizeOf30
 v37 := Tryd.zeroValue30
 t70 := Tryd.underlying46
 a70 := Tryd.isAgg46
 z70 := Tryd.sizeOf46
 v70 := Tryd.zeroValue46
 t72 := Tryd.underlying48
 a72 := Tryd.isAgg48
 z72 := Tryd.sizeOf48
 v72 := Tryd.zeroValue48
 t127 := Tryd.underlying71
 a127 := Tryd.isAgg71
 z127 := Tryd.sizeOf71
 v127 := Tryd.zeroValue71 }
theorem Tryd.qo : Builder.Extra Tryd.prog Tryd.s9 := {
 sizeBuilder := by kernel_rfl
 liesBuilder := by kernel_rfl
 t5 := Tryd.underlying5
 a5 := Tryd.isAgg5
 z5 := Tryd.sizeOf5
 v5 := Tryd.zeroValue5
 infoByte := by kernel_rfl
 cellsByte := by kernel_rfl
 sizeByte := by kernel_rfl
 neB5 := by decide }
open Go.RowKit in
theorem Tryd.Builder_String_any (B b : Nat) (l : List UInt8) (w : World) (h : Lib.IsBuilder 48 5 B b (Lib.byteCells l) w) (hBw : B ≤ w.heap.size) :
  Calls Tryd.prog 24 #[.pointer (some ⟨b, 0, none⟩)] w fun e w' => e = .returned (.string ⟨l.toArray⟩) ∧ Below B w w' := Any.Builder_String_any Tryd.ajq Tryd.qo B b l w h hBw
open Go.RowKit in
def Tryd.aa8 : Go.Shelf.Ren := ⟨fun | 129 => 75 | n => n, fun | 53 => 58 | 3 => 3 | 4 => 4 | 46 => 59 | 5 => 5 | 9 => 9 | n => n, fun | n => n⟩
theorem Tryd.ajp : Go.Proofs.Lays.n129 Tryd.prog Tryd.aa8 := {
 mixed := by kernel_rfl
 f129 := Tryd.func75.trans (congrArg some (by kernel_rfl))
 t3 := Tryd.underlying3
 a3 := Tryd.isAgg3
 z3 := Tryd.sizeOf3
 v3 := Tryd.zeroValue3
 t4 := Tryd.underlying4
 a4 := Tryd.isAgg4
 z4 := Tryd.sizeOf4
 v4 := Tryd.zeroValue4
 t5 := Tryd.underlying5
 a5 := Tryd.isAgg5
 z5 := Tryd.sizeOf5
 v5 := Tryd.zeroValue5
 t9 := Tryd.underlying9
 a9 := Tryd.isAgg9
 z9 := Tryd.sizeOf9
 v9 := Tryd.zeroValue9
 t46 := Tryd.underlying59
 a46 := Tryd.isAgg59
 z46 := Tryd.sizeOf59
 v46 := Tryd.zeroValue59
 t53 := Tryd.underlying58
 a53 := Tryd.isAgg58
 z53 := Tryd.sizeOf58
 v53 := Tryd.zeroValue58 }
theorem Tryd.bits_Len64 (x : Int) (w : World) (h0 : 0 ≤ x) (h1 : x ≤ 18446744073709551615) :
  Calls Tryd.prog 75 #[.int .u64 x] w fun e w' => e = .returned (.int .i64 (Lib.bitLen x.toNat)) ∧ w' = w := Any.bits_Len64 Tryd.ajp x w h0 h1
def Tryd.aa9 : Go.Shelf.Ren := ⟨fun | 283 => 62 | n => n, fun | 3 => 3 | 9 => 9 | 4 => 4 | n => n, fun | n => n⟩
theorem Tryd.ajr : Go.Proofs.Lays.n283 Tryd.prog Tryd.aa9 := {
 mixed := by kernel_rfl
 f283 := Tryd.func62.trans (congrArg some (by kernel_rfl))
 t3 := Tryd.underlying3
 a3 := Tryd.isAgg3
 z3 := Tryd.sizeOf3
 v3 := Tryd.zeroValue3
 t4 := Tryd.underlying4
 a4 := Tryd.isAgg4
 z4 := Tryd.sizeOf4
 v4 := Tryd.zeroValue4
 t9 := Tryd.underlying9
 a9 := Tryd.isAgg9
 z9 := Tryd.sizeOf9
 v9 := Tryd.zeroValue9 }
open Go.Lib in
theorem Tryd.internal_strconv_small (i : Nat) (h : i < 100) (w : World) :
  Calls Tryd.prog 62 #[.int .i64 i] w fun e w' => e = .returned (.string ⟨(Lib.decDigits i).toArray⟩) ∧ w' = w := Any.internal_strconv_small Tryd.ajr i h w
open Go.Lib in
def Tryd.aba : Go.Shelf.Ren := ⟨fun | 285 => 64 | n => n, fun | 37 => 30 | 53 => 58 | 3 => 3 | 4 => 4 | 51 => 44 | 9 => 9 | 5 => 5 | 0 => 0 | n => n, fun | n => n⟩
theorem Tryd.ajs : Go.Proofs.Lays.n285 Tryd.prog Tryd.aba := {
 mixed := by kernel_rfl
 f285 := Tryd.func64.trans (congrArg some (by kernel_rfl))
 t0 := Tryd.underlying0
 a0 := Tryd.isAgg0
 z0 := Tryd.sizeOf0
 v0 := Tryd.zeroValue0
 t3 := Tryd.underlying3
 a3 := Tryd.isAgg3
 z3 := Tryd.sizeOf3
 v3 := Tryd.zeroValue3
 t4 := Tryd.underlying4
 a4 := Tryd.isAgg4
 z4 := Tryd.sizeOf4
 v4 := Tryd.zeroValue4
 t5 := Tryd.underlying5
 a5 := Tryd.isAgg5
 z5 := Tryd.sizeOf5
 v5 := Tryd.zeroValue5
 t9 := Tryd.underlying9
 a9 := Tryd.isAgg9
 z9 := Tryd.sizeOf9
 v9 := Tryd.zeroValue9
 t37 := Tryd.underlying30
 a37 := Tryd.isAgg30
 z37 := Tryd.sizeOf30
 v37 := Tryd.zeroValue30
 t51 := Tryd.underlying44
 a51 := Tryd.isAgg44
 z51 := Tryd.sizeOf44
 v51 := Tryd.zeroValue44
 t53 := Tryd.underlying58
 a53 := Tryd.isAgg58
 z53 := Tryd.sizeOf58
 v53 := Tryd.zeroValue58 }
open Go.RowKit Go.Sort Go.Lib in
theorem Tryd.internal_strconv_formatBase10 (blk off cap : Nat) (u : Nat) (d : Array UInt8) (w : World) (hH : Holds (fun (b : UInt8) => Value.int .u8 (b.toNat : Int)) w blk off d) (hu : u < 10 ^ d.size) (hu64 : u < 18446744073709551616) (hsz : d.size < 4611686018427387904) :
  Calls Tryd.prog 64 #[.slice (some ⟨blk, off, none⟩) d.size cap, .int .u64 u] w fun e w' =>
   e = .returned (.tuple #[]) ∧ ∃ (n v' : Nat) (dk : Array UInt8), w' = (putRow (fun (b : UInt8) => Value.int .u8 (b.toNat : Int)) w blk off dk).drewN n ∧ FmtInv d.size u 0 v' dk := Any.internal_strconv_formatBase10 Tryd.ajs blk off cap u d w hH hu hu64 hsz
open Go.RowKit Go.Sort Go.Lib in
def Tryd.zm : Go.Shelf.Ren := ⟨fun | 14 => 59 | 16 => 72 | 17 => 73 | 19 => 82 | 20 => 83 | 21 => 84 | 22 => 85 | 23 => 86 | 24 => 87 | 25 => 94 | 27 => 96 | 26 => 95 | 28 => 98 | 29 => 100 | 30 => 62 | 31 => 63 | 32 => 64 | 33 => 65 | 35 => 75 | 34 => 74 | 36 => 76 | 37 => 77 | 38 => 78 | 39 => 88 | 40 => 89 | n => n, fun | 9 => 9 | 3 => 3 | 22 => 58 | 24 => 50 | 25 => 89 | 4 => 4 | 34 => 114 | 5 => 5 | 36 => 59 | 37 => 30 | 0 => 0 | 39 => 117 | 21 => 21 | 44 => 129 | 47 => 71 | 50 => 135 | 48 => 133 | 2 => 2 | 52 => 93 | 55 => 96 | 59 => 108 | 60 => 44 | 20 => 20 | 61 => 109 | 65 => 131 | 66 => 132 | 67 => 54 | n => n, fun | 0 => 4 | 1 => 5 | 2 => 0 | 3 => 6 | 4 => 7 | n => n⟩
theorem Tryd.ahj : Go.Proofs.LaysPu.n14 Tryd.prog Tryd.zm := {
 mixed := by kernel_rfl
 f14 := Tryd.func59.trans (congrArg some (by kernel_rfl))
 f16 := Tryd.func72.trans (congrArg some (by kernel_rfl))
 f17 := Tryd.func73.trans (congrArg some (by kernel_rfl))
 f19 := Tryd.func82.trans (congrArg some (by kernel_rfl))
 f20 := Tryd.func83.trans (congrArg some (by kernel_rfl))
 f21 := Tryd.func84.trans (congrArg some (by kernel_rfl))
 f22 := Tryd.func85.trans (congrArg some (by kernel_rfl))
 f23 := Tryd.func86.trans (congrArg some (by kernel_rfl))
 f24 := Tryd.func87.trans (congrArg some (by kernel_rfl))
 f25 := Tryd.func94.trans (congrArg some (by kernel_rfl))
 f26 := Tryd.func95.trans (congrArg some (by kernel_rfl))
 f27 := Tryd.func96.trans (congrArg some (by kernel_rfl))
 f28 := Tryd.func98.trans (congrArg some (by kernel_rfl))
 f29 := Tryd.func100.trans (congrArg some (by kernel_rfl))
 f30 := Tryd.func62.trans (congrArg some (by kernel_rfl))
 f31 := Tryd.func63.trans (congrArg some (by kernel_rfl))
 f32 := Tryd.func64.trans (congrArg some (by kernel_rfl))
 f33 := Tryd.func65.trans (congrArg some (by kernel_rfl))
 f34 := Tryd.func74.trans (congrArg some (by kernel_rfl))
 f35 := Tryd.func75.trans (congrArg some (by kernel_rfl))
 f36 := Tryd.func76.trans (congrArg some (by kernel_rfl))
 f37 := Tryd.func77.trans (congrArg some (by kernel_rfl))
 f38 := Tryd.func78.trans (congrArg some (by kernel_rfl))
 f39 := Tryd.func88.trans (congrArg some (by kernel_rfl))
 f40 := Tryd.func89.trans (congrArg some (by kernel_rfl))
 t0 := Tryd.underlying0
 a0 := Tryd.isAgg0
 z0 := Tryd.sizeOf0
 v0 := Tryd.zeroValue0
 i0 := by kernel_rfl
 t2 := Tryd.underlying2
 a2 := Tryd.isAgg2
 z2 := Tryd.sizeOf2
 v2 := Tryd.zeroValue2
 i2 := by kernel_rfl
 t3 := Tryd.underlying3
 a3 := Tryd.isAgg3
 z3 := Tryd.sizeOf3
 v3 := Tryd.zeroValue3
 i3 := by kernel_rfl
 t4 := Tryd.underlying4
 a4 := Tryd.isAgg4
 z4 := Tryd.sizeOf4
 v4 := Tryd.zeroValue4
 i4 := by kernel_rfl
 t5 := Tryd.underlying5
 a5 := Tryd.isAgg5
 z5 := Tryd.sizeOf5
 v5 := Tryd.zeroValue5
 i5 := by kernel_rfl
 t9 := Tryd.underlying9
 a9 := Tryd.isAgg9
 z9 := Tryd.sizeOf9
 v9 := Tryd.zeroValue9
 i9 := by kernel_rfl
 t20 := Tryd.underlying20
 a20 := Tryd.isAgg20
 z20 := Tryd.sizeOf20
 v20 := Tryd.zeroValue20
 i20 := by kernel_rfl
 t21 := Tryd.underlying21
 a21 := Tryd.isAgg21
 z21 := Tryd.sizeOf21
 v21 := Tryd.zeroValue21
 i21 := by kernel_rfl
 t22 := Tryd.underlying58
 a22 := Tryd.isAgg58
 z22 := Tryd.sizeOf58
 v22 := Tryd.zeroValue58
 i22 := by kernel_rfl
 t24 := Tryd.underlying50
 a24 := Tryd.isAgg50
 z24 := Tryd.sizeOf50
 v24 := Tryd.zeroValue50
 i24 := by kernel_rfl
 t25 := Tryd.underlying89
 a25 := Tryd.isAgg89
 z25 := Tryd.sizeOf89
 v25 := Tryd.zeroValue89
 i25 := by kernel_rfl
 t34 := Tryd.underlying114
 a34 := Tryd.isAgg114
 z34 := Tryd.sizeOf114
 v34 := Tryd.zeroValue114
 i34 := by kernel_rfl
 c34 := by kernel_rfl
 t36 := Tryd.underlying59
 a36 := Tryd.isAgg59
 z36 := Tryd.sizeOf59
 v36 := Tryd.zeroValue59
 i36 := by kernel_rfl
 t37 := Tryd.underlying30
 a37 := Tryd.isAgg30
 z37 := Tryd.sizeOf30
 v37 := Tryd.zeroValue30
 i37 := by kernel_rfl
 t39 := Tryd.underlying117
 a39 := Tryd.isAgg117
 z39 := Tryd.sizeOf117
 v39 := Tryd.zeroValue117
 i39 := by kernel_rfl
 t44 := Tryd.underlying129
 a44 := Tryd.isAgg129
 z44 := Tryd.sizeOf129
 v44 := Tryd.zeroValue129
 i44 := by kernel_rfl
 t47 := Tryd.underlying71
 a47 := Tryd.isAgg71
 z47 := Tryd.sizeOf71
 v47 := Tryd.zeroValue71
 i47 := by kernel_rfl
 t48 := Tryd.underlying133
 a48 := Tryd.isAgg133
 z48 := Tryd.sizeOf133
 v48 := Tryd.zeroValue133
 i48 := by kernel_rfl
 t50 := Tryd.underlying135
 a50 := Tryd.isAgg135
 z50 := Tryd.sizeOf135
 v50 := Tryd.zeroValue135
 i50 := by kernel_rfl
 t52 := Tryd.underlying93
 a52 := Tryd.isAgg93
 z52 := Tryd.sizeOf93
 v52 := Tryd.zeroValue93
 i52 := by kernel_rfl
 t55 := Tryd.underlying96
 a55 := Tryd.isAgg96
 z55 := Tryd.sizeOf96
 v55 := Tryd.zeroValue96
 i55 := by kernel_rfl
 t59 := Tryd.underlying108
 a59 := Tryd.isAgg108
 z59 := Tryd.sizeOf108
 v59 := Tryd.zeroValue108
 i59 := by kernel_rfl
 t60 := Tryd.underlying44
 a60 := Tryd.isAgg44
 z60 := Tryd.sizeOf44
 v60 := Tryd.zeroValue44
 i60 := by kernel_rfl
 t61 := Tryd.underlying109
 a61 := Tryd.isAgg109
 z61 := Tryd.sizeOf109
 t65 := Tryd.underlying131
 a65 := Tryd.isAgg131
 z65 := Tryd.sizeOf131
 v65 := Tryd.zeroValue131
 i65 := by kernel_rfl
 t66 := Tryd.underlying132
 a66 := Tryd.isAgg132
 z66 := Tryd.sizeOf132
 v66 := Tryd.zeroValue132
 i66 := by kernel_rfl
 t67 := Tryd.underlying54
 a67 := Tryd.isAgg54
 z67 := Tryd.sizeOf54
 v67 := Tryd.zeroValue54
 i67 := by kernel_rfl
 g0 := by kernel_rfl
 m0 := by kernel_rfl
 g1 := by kernel_rfl
 m1 := by kernel_rfl
 g2 := by kernel_rfl
 m2 := by kernel_rfl
 g3 := by kernel_rfl
 m3 := by kernel_rfl
 g4 := by kernel_rfl
 m4 := by kernel_rfl }
open Go.RowKit in
theorem Tryd.strconv_ParseUint_10_at32_ok (s : ByteArray) (hmax : s.size ≤ 9223372036854775806) (u : Nat) (h : Lib.parseUintB 32 s.data.toList = .ok u) (w : World) :
  Calls Tryd.prog 59 #[.string s, .int .i64 10, .int .i64 32] w fun e w' => e = .returned (.tuple #[.int .u64 u, .nilIface]) ∧ (w' = w ∨ w' = Lib.bytesWorld w 5 s) := Any.strconv_ParseUint_10_at32_ok Tryd.ahj s hmax u h w
def Tryd.s8 : Go.Shelf.Ren := ⟨fun | 105 => 38 | 212 => 50 | 99 => 41 | 165 => 51 | 166 => 22 | 170 => 52 | 169 => 24 | 263 => 66 | 264 => 67 | 206 => 58 | 240 => 39 | 241 => 68 | 276 => 53 | 277 => 79 | n => n, fun | 9 => 9 | 3 => 3 | 4 => 4 | 20 => 20 | 0 => 0 | 46 => 59 | 109 => 76 | 5 => 5 | 72 => 48 | 76 => 51 | 51 => 44 | 146 => 98 | 53 => 58 | 148 => 100 | 70 => 46 | 37 => 30 | 75 => 50 | 127 => 71 | 164 => 80 | 80 => 54 | n => n, fun | n => n⟩
theorem Tryd.aek : Go.Proofs.Lays.n105 Tryd.prog Tryd.s8 := {
 mixed := by kernel_rfl
 f99 := Tryd.func41.trans (congrArg some (by kernel_rfl))
 f105 := Tryd.func38.trans (congrArg some (by kernel_rfl))
 f165 := Tryd.func51.trans (congrArg some (by kernel_rfl))
 f166 := Tryd.func22.trans (congrArg some (by kernel_rfl))
 f169 := Tryd.func24.trans (congrArg some (by kernel_rfl))
 f170 := Tryd.func52.trans (congrArg some (by kernel_rfl))
 f206 := Tryd.func58.trans (congrArg some (by kernel_rfl))
 f212 := Tryd.func50.trans (congrArg some (by kernel_rfl))
 f240 := Tryd.func39.trans (congrArg some (by kernel_rfl))
 f241 := Tryd.func68.trans (congrArg some (by kernel_rfl))
 f263 := Tryd.func66.trans (congrArg some (by kernel_rfl))
 f264 := Tryd.func67.trans (congrArg some (by kernel_rfl))
 f276 := Tryd.func53.trans (congrArg some (by kernel_rfl))
 f277 := Tryd.func79.trans (congrArg some (by kernel_rfl))
 t0 := Tryd.underlying0
 a0 := Tryd.isAgg0
 z0 := Tryd.sizeOf0
 v0 := Tryd.zeroValue0
 t3 := Tryd.underlying3
 a3 := Tryd.isAgg3
 z3 := Tryd.sizeOf3
 v3 := Tryd.zeroValue3
 t4 := Tryd.underlying4
 a4 := Tryd.isAgg4
 z4 := Tryd.sizeOf4
 v4 := Tryd.zeroValue4
 t5 := Tryd.underlying5
 a5 := Tryd.isAgg5
 z5 := Tryd.sizeOf5
 v5 := Tryd.zeroValue5
 t9 := Tryd.underlying9
 a9 := Tryd.isAgg9
 z9 := Tryd.sizeOf9
 v9 := Tryd.zeroValue9
 t20 := Tryd.underlying20
 a20 := Tryd.isAgg20
 z20 := Tryd.sizeOf20
 v20 := Tryd.zeroValue20
 t37 := Tryd.underlying30
 a37 := Tryd.isAgg30
 z37 := Tryd.sizeOf30
 v37 := Tryd.zeroValue30
 t46 := Tryd.underlying59
 a46 := Tryd.isAgg59
 z46 := Tryd.sizeOf59
 v46 := Tryd.zeroValue59
 t51 := Tryd.underlying44
 a51 := Tryd.isAgg44
 z51 := Tryd.sizeOf44
 v51 := Tryd.zeroValue44
 t53 := Tryd.underlying58
 a53 := Tryd.isAgg58
 z53 := Tryd.sizeOf58
 v53 := Tryd.zeroValue58
 t70 := Tryd.underlying46
 a70 := Tryd.isAgg46
 z70 := Tryd.sizeOf46
 v70 := Tryd.zeroValue46
 t72 := Tryd.underlying48
 a72 := Tryd.isAgg48
 z72 := Tryd.sizeOf48
 v72 := Tryd.zeroValue48
 t75 := Tryd.underlying50
 a75 := Tryd.isAgg50
 z75 := Tryd.sizeOf50
 v75 := Tryd.zeroValue50
 t76 := Tryd.underlying51
 a76 := Tryd.isAgg51
 z76 := Tryd.sizeOf51
 v76 := Tryd.zeroValue51
 t109 := Tryd.underlying76
 a109 := Tryd.isAgg76
 z109 := Tryd.sizeOf76
 v109 := Tryd.zeroValue76
 t127 := Tryd.underlying71
 a127 := Tryd.isAgg71
 z127 := Tryd.sizeOf71
 v127 := Tryd.zeroValue71
 t146 := Tryd.underlying98
 a146 := Tryd.isAgg98
 z146 := Tryd.sizeOf98
 v146 := Tryd.zeroValue98
 t148 := Tryd.underlying100
 a148 := Tryd.isAgg100
 z148 := Tryd.sizeOf100
 v148 := Tryd.zeroValue100
 t164 := Tryd.underlying80
 a164 := Tryd.isAgg80
 z164 := Tryd.sizeOf80
 v164 := Tryd.zeroValue80 }
theorem Tryd.kt : Builder.Extra Tryd.prog Tryd.s8 := {
 sizeBuilder := by kernel_rfl
 liesBuilder := by kernel_rfl
 t5 := Tryd.underlying5
 a5 := Tryd.isAgg5
 z5 := Tryd.sizeOf5
 v5 := Tryd.zeroValue5
 infoByte := by kernel_rfl
 cellsByte := by kernel_rfl
 sizeByte := by kernel_rfl
 neB5 := by decide }
open Go.RowKit Go.Lib in
theorem Tryd.strings_Repeat (s : ByteArray) (c : Nat) (w : World) (hc : c ≤ 9223372036854775807) (hlen : s.size * c ≤ 140737488355328) :
  Calls Tryd.prog 38 #[.string s, .int .i64 c] w fun e w' => e = .returned (.string ⟨(Lib.repeatL s.data.toList c).toArray⟩) ∧ Below w.heap.size w w' := Any.strings_Repeat Tryd.aek Tryd.kt s c w hc hlen
open Go.RowKit in
theorem Tryd.Builder_WriteString (B b : Nat) (bs : List Value) (s : ByteArray) (w : World) (h : Lib.IsBuilder 48 5 B b bs w) (hlen : bs.length + s.size ≤ 140737488355328) (hBw : B ≤ w.heap.size) :
  Calls Tryd.prog 22 #[.pointer (some ⟨b, 0, none⟩), .string s] w fun e w' => e = .returned (.tuple #[.int .i64 s.size, .nilIface]) ∧ (Lib.BuilderAt 48 5 B b (.pointer (some ⟨b, 0, none⟩)) (bs ++ Lib.strCells s) w' ∧ Below B w w') := Any.Builder_WriteString { Tryd.aek with } Tryd.kt B b bs s w h hlen hBw
end Go.Proofs

-- STR
namespace Go.Ev
open Go Go.RowKit
def D.v0 : D → Option Value
 | .bool b => some (.bool b)
 | .int k n => some (.int k n)
 | .str s => some (.string s)
 | .raw v => some v
 | _ => none
def D.vs0 : List D → Option (List Value)
 | [] => some []
 | x :: l => match x.v0, D.vs0 l with
  | some v, some vs => some (v :: vs)
  | _, _ => none
theorem amg {S : Imm} {w : World} {x : D} {v u : Value} (h : x.v0 = some v) (hd : DR S w x u) : u = v := by
 cases x <;> simp_all [D.v0, DR]
theorem agm {S : Imm} {w : World} : ∀ {l : List D} {vs us : List Value}, D.vs0 l = some vs → DRs S w l us → us = vs
 | [], vs, us, h, hd => by
  simp only [D.vs0, Option.some.injEq] at h
  simp only [DRs] at hd
  rw [hd, h]
 | x :: l, vs, us, h, hd => by
  simp only [DRs] at hd
  obtain ⟨u, us', rfl, h1, h2⟩ := hd
  simp only [D.vs0] at h
  split at h
  ·rename_i v vs' hv hvs
   cases h
   rw [amg hv h1, agm hvs h2]
  ·cases h
theorem aad {P : Program} {G : bj} {f : FuncId} {args : List D} {vs : List Value} {r : D} {rv : Value} (hc : fb P f = true) (ha : D.vs0 args = some vs) (hr : ∀ S w, DR S w r rv)
  (h : ∀ w, Calls P f vs.toArray w fun e w' => e = .returned rv ∧ Below w.heap.size w w') : Sim P G true f args r := by
 refine ⟨hc, fun S w us hS hG hd => ?_⟩
 rw [agm ha hd]
 refine (h w).mono ?_
 rintro e w' ⟨rfl, hb⟩
 exact ⟨_, rfl, hb, fun _ _ => False, fun _ _ h => h.elim, hr _ _⟩
theorem abq {P : Program} {G : bj} {f : FuncId} {args : List D} {vs : List Value} {r : D} {rv : Value} (hc : fb P f = true) (ha : D.vs0 args = some vs) (hr : ∀ S w, DR S w r rv)
  (h : ∀ w, Calls P f vs.toArray w fun e w' => e = .returned rv ∧ w' = w) : Sim P G true f args r :=
 aad hc ha hr fun w => (h w).mono (by rintro e w' ⟨rfl, rfl⟩; exact ⟨rfl, Below.refl _ _⟩)
end Go.Ev
namespace Go.Ev.Ar
open Go Go.Ev Go.Proofs Go.RowKit
def fu (b v : Nat) : List UInt8 := (if v = 0 then [0] else dg b v).map ch
theorem alp : ∀ v : Nat, Lib.decDigits v = fu 10 v := by
 intro v
 induction v using Nat.strongRecOn with
 | ind v ih =>
  rw [Lib.decDigits]
  split
  ·rename_i h
   by_cases h0 : v = 0
   ·subst h0; rfl
   ·rw [fu, if_neg h0, ga (by omega) h0, Nat.div_eq_of_lt h, en, Nat.mod_eq_of_lt h]
    simp [agv h]
  ·rename_i h
   have h0 : v ≠ 0 := by omega
   have h1 : v / 10 ≠ 0 := by omega
   rw [ih _ (by omega), fu, fu, if_neg h0, if_neg h1, ga (by omega) h0, List.map_append, List.map_singleton, agv (by omega)]
theorem am4 : ∀ v : Nat, v ≠ 0 → Lib.nDigits v = (dg 10 v).length := by
 intro v
 induction v using Nat.strongRecOn with
 | ind v ih =>
  intro h0
  rw [ga (by omega) h0, List.length_append, List.length_singleton]
  by_cases h : v < 10
  ·rw [Lib.nDigits_small h, Nat.div_eq_of_lt h, en]; rfl
  ·rw [Lib.nDigits_big h, ih _ (by omega) (by omega)]
theorem af3 (v : Nat) (h : v < 100) : Sim Tryd.prog G0 true 62 [.int .i64 v] (.str (bst (fu 10 v))) := by
 refine abq (vs := [.int .i64 v]) (rv := .string ⟨(Lib.decDigits v).toArray⟩) (by kernel_rfl) rfl (fun S w => ?_) fun w => Tryd.internal_strconv_small v h w
 simp only [DR]; rw [alp, fp]
theorem aft (v : Nat) (h : v < 18446744073709551616) : Sim Tryd.prog G0 true 75 [.int .u64 v] (.int .i64 (Lib.bitLen v)) := by
 refine abq (vs := [.int .u64 v]) (rv := .int .i64 (Lib.bitLen v)) (by kernel_rfl) rfl (fun S w => ?_) fun w => ?_
 ·simp only [DR]
 ·have := Tryd.bits_Len64 v w (by omega) (by omega)
  rw [Int.toNat_natCast] at this; exact this
theorem ajo (x : Nat) (h : x ≤ 64) : Sim Tryd.prog G0 true 74 [.int .i64 x] (.int .i64 (Lib.l10 x)) := by
 refine cl ay Tryd.func74 ?_
 repeat' ((conv => whnf); first | refine aw.data ?_ | refine rgE ?_ | refine Cd.mk rfl ?_ | refine Br.t ?_ | refine Br.f ?_ | with_reducible refine Br.dec (fun _ => ?_) (fun _ => ?_) | with_reducible refine Br.br (fun _ => ?_) (fun _ => ?_) | refine Br.mk (fun _ => ?_) (fun _ => ?_) | refine ao.mk _ (az _ _ (by omega)) ?_ | refine ao.mk _ (a6 _ _ (by omega)) ?_ | refine ao.mk _ (cv _ _ _ (by first | with_reducible exact af _ | with_reducible exact ab _ | exact af _ | exact ab _ | rfl) (by first | omega | (simp only [List.length_set]; omega))) ?_ | refine ao.mk _ rfl ?_ | refine And.intro (fun _ => ?_) ?_ | (refine TkE.fL ?_; (conv => whnf); fail_if_success (show ag _ _)) | refine TkE.mk _ rfl rfl ?_ | refine Res.mk ?_ | refine a8.mk (by repeat first | exact True.intro | refine And.intro (by kernel_rfl) ?_) ?_ | refine DsE.mk (ba _) rfl ?_ | refine DsE.mk [] rfl ?_ | refine ai.cu _ _ ?_ | ((with_reducible refine EqE.idT ?_); first | ((conv => arg 1; simp only [ak, List.toList_toArray, an, ae, aa, Int.toNat_natCast, Int.toNat_zero, Int.toNat_one, b4, b5, List.drop_zero, Nat.sub_zero, List.cons_append, List.nil_append]); refine EqE.mk _ rfl ?_) | refine EqE.mk _ rfl ?_) | ((with_reducible refine EqE.idP ?_); first | ((conv => arg 1; simp only [ak, List.toList_toArray, bz, b3]); refine EqE.mk _ rfl ?_) | refine EqE.mk _ rfl ?_) | ((with_reducible refine EqE.idN ?_); first | ((conv => arg 1; simp only [ak, List.toList_toArray, aa, bb, Int.toNat_natCast, Int.toNat_zero, Int.toNat_one, List.length_cons, List.length_nil, Nat.zero_add]); refine EqE.mk _ rfl ?_)) | ((with_reducible refine EqE.idW ?_); first | refine EqE.mk ((x * 78913 : Nat) : Int) (by rw [ah (by omega) (by omega)]; omega) ?_ | with_reducible refine EqE.mk _ (av _) ?_ | with_reducible refine EqE.mk _ (ed _ _ (by omega)) ?_ | with_reducible refine EqE.mk _ (bx _ (by omega)) ?_ | with_reducible refine EqE.mk _ (et _ _ (by omega) (by omega)) ?_ | with_reducible refine EqE.mk _ (ep _ _ (by omega)) ?_ | with_reducible refine EqE.mk _ (eg _ _ (by omega) (by omega)) ?_ | with_reducible refine EqE.mk _ (c6 _ (by omega)) ?_ | with_reducible refine EqE.mk _ (dd _ (by omega)) ?_ | with_reducible refine EqE.mk _ (n_and1_32 _ (by omega)) ?_ | with_reducible refine EqE.mk _ (eo _ _ (by omega) (by omega)) ?_ | with_reducible refine EqE.mk _ (ig _ _ (by omega) (by omega)) ?_ | refine EqE.mk _ (er _ 32 (by omega)) ?_ | with_reducible refine EqE.mk _ (cc _) ?_ | with_reducible refine EqE.mk _ (gu _) ?_ | with_reducible refine EqE.mk _ (ey _ (by omega)) ?_ | with_reducible refine EqE.mk _ (a7 _ (by omega)) ?_ | with_reducible refine EqE.mk _ (ar _ (by omega)) ?_ | with_reducible refine EqE.mk _ (n_iadd _ _ (by omega)) ?_ | with_reducible refine EqE.mk _ (wrap_u64 (by omega) (by omega)) ?_ | with_reducible refine EqE.mk _ (wrap_u32 _) ?_ | with_reducible refine EqE.mk _ (ah (by omega) (by omega)) ?_ | refine EqE.mk _ rfl ?_) | ((with_reducible refine EqE.idF ?_); first | refine EqE.mk _ (aj _ 262144 _ _ rfl) ?_ | with_reducible refine EqE.mk _ (n_shr63 _) ?_ | with_reducible refine EqE.mk _ (cg _ _ (by omega)) ?_ | with_reducible refine EqE.mk _ (n_shrv32 _ _ (by omega)) ?_ | with_reducible refine EqE.mk _ (n_shr1_32 _) ?_ | refine EqE.mk _ (aj _ 4294967296 _ _ rfl) ?_ | refine EqE.mk _ (aj _ 65536 _ _ rfl) ?_ | refine EqE.mk _ (aj _ 256 _ _ rfl) ?_ | refine EqE.mk _ (aj _ 134217728 _ _ rfl) ?_ | refine EqE.mk _ (aj _ 2 _ _ rfl) ?_ | refine EqE.mk _ (aj _ 16 _ _ rfl) ?_ | refine EqE.mk _ rfl ?_) | ((with_reducible refine EqE.idM ?_); first | refine EqE.mk _ (bm _ 32) ?_ | refine EqE.mk _ (bm _ _) ?_ | refine EqE.mk _ rfl ?_) | ((with_reducible refine EqE.idI ?_); first | refine EqE.mk _ (ib _) ?_ | with_reducible refine EqE.mk _ (b9 _ _) ?_ | refine EqE.mk _ (max_eq _ _) ?_ | refine EqE.mk _ (min_eq _ _) ?_) | ((with_reducible refine EqE.idS ?_); first | refine EqE.mk _ (bo _ _ _ _ (by first | with_reducible exact af _ | with_reducible exact ab _ | exact af _ | exact ab _ | rfl) (by first | omega | (simp only [List.length_set]; omega)) (by omega)) ?_ | refine EqE.mk _ (db _ _ _ _ (by first | with_reducible exact af _ | with_reducible exact ab _ | exact af _ | exact ab _ | rfl) (by omega) (by omega) (by omega)) ?_ | (refine EqE.fP ?_; (conv => whnf); fail_if_success (show ag _ _)) | refine EqE.mk _ rfl ?_) | ((with_reducible refine EqE.idA ?_); first | refine EqE.mk _ (b8 _) ?_ | refine EqE.mk _ (da _ _) ?_ | refine EqE.mk _ rfl ?_) | ((with_reducible refine EqE.idR ?_); first | refine EqE.mk _ (ca _) ?_ | refine EqE.mk _ rfl ?_) | ((with_reducible refine EqE.idL ?_); first | refine EqE.mk _ (ax _ _ _ _ (by omega) (by omega) rfl) ?_ | refine EqE.mk _ (sl_sliceN _ _ (by omega)) ?_ | refine EqE.mk _ (bn _ _ _ (by omega) (by omega) (by omega)) ?_ | refine EqE.mk _ rfl ?_) | refine EqE.mk _ rfl ?_ | refine Cd.ro ?_ | refine Cd.dc ?_ | refine Cd.ob ?_ | refine Cd.ol ?_ | refine Cd.mk ⟨rfl, rfl⟩ ?_ | refine Cd.mk (bd _) ?_ | refine Cd.om ?_ | refine Cd.mk ?_ ?_ | refine DsE.mk [_] rfl ?_ | refine DsE.mk [_, _, _] rfl ?_)
 rfl
theorem aff (b : Bool) : Sim Tryd.prog G0 true 76 [.bool b] (.int .i64 (if b then 1 else 0)) := by
 refine cl ay Tryd.func76 ?_
 cases b
 ·repeat' ((conv => whnf); first | refine aw.data ?_ | refine rgE ?_ | refine Cd.mk rfl ?_ | refine Br.t ?_ | refine Br.f ?_ | with_reducible refine Br.dec (fun _ => ?_) (fun _ => ?_) | with_reducible refine Br.br (fun _ => ?_) (fun _ => ?_) | refine Br.mk (fun _ => ?_) (fun _ => ?_) | refine ao.mk _ (az _ _ (by omega)) ?_ | refine ao.mk _ (a6 _ _ (by omega)) ?_ | refine ao.mk _ (cv _ _ _ (by first | with_reducible exact af _ | with_reducible exact ab _ | exact af _ | exact ab _ | rfl) (by first | omega | (simp only [List.length_set]; omega))) ?_ | refine ao.mk _ rfl ?_ | refine And.intro (fun _ => ?_) ?_ | (refine TkE.fL ?_; (conv => whnf); fail_if_success (show ag _ _)) | refine TkE.mk _ rfl rfl ?_ | refine Res.mk ?_ | refine a8.mk (by repeat first | exact True.intro | refine And.intro (by kernel_rfl) ?_) ?_ | refine DsE.mk (ba _) rfl ?_ | refine DsE.mk [] rfl ?_ | refine ai.cu _ _ ?_ | ((with_reducible refine EqE.idT ?_); first | ((conv => arg 1; simp only [ak, List.toList_toArray, an, ae, aa, Int.toNat_natCast, Int.toNat_zero, Int.toNat_one, b4, b5, List.drop_zero, Nat.sub_zero, List.cons_append, List.nil_append]); refine EqE.mk _ rfl ?_) | refine EqE.mk _ rfl ?_) | ((with_reducible refine EqE.idP ?_); first | ((conv => arg 1; simp only [ak, List.toList_toArray, bz, b3]); refine EqE.mk _ rfl ?_) | refine EqE.mk _ rfl ?_) | ((with_reducible refine EqE.idN ?_); first | ((conv => arg 1; simp only [ak, List.toList_toArray, aa, bb, Int.toNat_natCast, Int.toNat_zero, Int.toNat_one, List.length_cons, List.length_nil, Nat.zero_add]); refine EqE.mk _ rfl ?_)) | ((with_reducible refine EqE.idW ?_); first | with_reducible refine EqE.mk _ (av _) ?_ | with_reducible refine EqE.mk _ (ed _ _ (by omega)) ?_ | with_reducible refine EqE.mk _ (bx _ (by omega)) ?_ | with_reducible refine EqE.mk _ (et _ _ (by omega) (by omega)) ?_ | with_reducible refine EqE.mk _ (ep _ _ (by omega)) ?_ | with_reducible refine EqE.mk _ (eg _ _ (by omega) (by omega)) ?_ | with_reducible refine EqE.mk _ (c6 _ (by omega)) ?_ | with_reducible refine EqE.mk _ (dd _ (by omega)) ?_ | with_reducible refine EqE.mk _ (n_and1_32 _ (by omega)) ?_ | with_reducible refine EqE.mk _ (eo _ _ (by omega) (by omega)) ?_ | with_reducible refine EqE.mk _ (ig _ _ (by omega) (by omega)) ?_ | refine EqE.mk _ (er _ 32 (by omega)) ?_ | with_reducible refine EqE.mk _ (cc _) ?_ | with_reducible refine EqE.mk _ (gu _) ?_ | with_reducible refine EqE.mk _ (ey _ (by omega)) ?_ | with_reducible refine EqE.mk _ (a7 _ (by omega)) ?_ | with_reducible refine EqE.mk _ (ar _ (by omega)) ?_ | with_reducible refine EqE.mk _ (n_iadd _ _ (by omega)) ?_ | with_reducible refine EqE.mk _ (wrap_u64 (by omega) (by omega)) ?_ | with_reducible refine EqE.mk _ (wrap_u32 _) ?_ | with_reducible refine EqE.mk _ (ah (by omega) (by omega)) ?_ | refine EqE.mk _ rfl ?_) | ((with_reducible refine EqE.idF ?_); first | with_reducible refine EqE.mk _ (n_shr63 _) ?_ | with_reducible refine EqE.mk _ (cg _ _ (by omega)) ?_ | with_reducible refine EqE.mk _ (n_shrv32 _ _ (by omega)) ?_ | with_reducible refine EqE.mk _ (n_shr1_32 _) ?_ | refine EqE.mk _ (aj _ 4294967296 _ _ rfl) ?_ | refine EqE.mk _ (aj _ 65536 _ _ rfl) ?_ | refine EqE.mk _ (aj _ 256 _ _ rfl) ?_ | refine EqE.mk _ (aj _ 134217728 _ _ rfl) ?_ | refine EqE.mk _ (aj _ 2 _ _ rfl) ?_ | refine EqE.mk _ (aj _ 16 _ _ rfl) ?_ | refine EqE.mk _ rfl ?_) | ((with_reducible refine EqE.idM ?_); first | refine EqE.mk _ (bm _ 32) ?_ | refine EqE.mk _ (bm _ _) ?_ | refine EqE.mk _ rfl ?_) | ((with_reducible refine EqE.idI ?_); first | refine EqE.mk _ (ib _) ?_ | with_reducible refine EqE.mk _ (b9 _ _) ?_ | refine EqE.mk _ (max_eq _ _) ?_ | refine EqE.mk _ (min_eq _ _) ?_) | ((with_reducible refine EqE.idS ?_); first | refine EqE.mk _ (bo _ _ _ _ (by first | with_reducible exact af _ | with_reducible exact ab _ | exact af _ | exact ab _ | rfl) (by first | omega | (simp only [List.length_set]; omega)) (by omega)) ?_ | refine EqE.mk _ (db _ _ _ _ (by first | with_reducible exact af _ | with_reducible exact ab _ | exact af _ | exact ab _ | rfl) (by omega) (by omega) (by omega)) ?_ | (refine EqE.fP ?_; (conv => whnf); fail_if_success (show ag _ _)) | refine EqE.mk _ rfl ?_) | ((with_reducible refine EqE.idA ?_); first | refine EqE.mk _ (b8 _) ?_ | refine EqE.mk _ (da _ _) ?_ | refine EqE.mk _ rfl ?_) | ((with_reducible refine EqE.idR ?_); first | refine EqE.mk _ (ca _) ?_ | refine EqE.mk _ rfl ?_) | ((with_reducible refine EqE.idL ?_); first | refine EqE.mk _ (ax _ _ _ _ (by omega) (by omega) rfl) ?_ | refine EqE.mk _ (sl_sliceN _ _ (by omega)) ?_ | refine EqE.mk _ (bn _ _ _ (by omega) (by omega) (by omega)) ?_ | refine EqE.mk _ rfl ?_) | refine EqE.mk _ rfl ?_ | refine Cd.ro ?_ | refine Cd.dc ?_ | refine Cd.ob ?_ | refine Cd.ol ?_ | refine Cd.mk ⟨rfl, rfl⟩ ?_ | refine Cd.mk (bd _) ?_ | refine Cd.om ?_ | refine Cd.mk ?_ ?_ | refine DsE.mk [_] rfl ?_ | refine DsE.mk [_, _, _] rfl ?_)
  rfl
 ·repeat' ((conv => whnf); first | refine aw.data ?_ | refine rgE ?_ | refine Cd.mk rfl ?_ | refine Br.t ?_ | refine Br.f ?_ | with_reducible refine Br.dec (fun _ => ?_) (fun _ => ?_) | with_reducible refine Br.br (fun _ => ?_) (fun _ => ?_) | refine Br.mk (fun _ => ?_) (fun _ => ?_) | refine ao.mk _ (az _ _ (by omega)) ?_ | refine ao.mk _ (a6 _ _ (by omega)) ?_ | refine ao.mk _ (cv _ _ _ (by first | with_reducible exact af _ | with_reducible exact ab _ | exact af _ | exact ab _ | rfl) (by first | omega | (simp only [List.length_set]; omega))) ?_ | refine ao.mk _ rfl ?_ | refine And.intro (fun _ => ?_) ?_ | (refine TkE.fL ?_; (conv => whnf); fail_if_success (show ag _ _)) | refine TkE.mk _ rfl rfl ?_ | refine Res.mk ?_ | refine a8.mk (by repeat first | exact True.intro | refine And.intro (by kernel_rfl) ?_) ?_ | refine DsE.mk (ba _) rfl ?_ | refine DsE.mk [] rfl ?_ | refine ai.cu _ _ ?_ | ((with_reducible refine EqE.idT ?_); first | ((conv => arg 1; simp only [ak, List.toList_toArray, an, ae, aa, Int.toNat_natCast, Int.toNat_zero, Int.toNat_one, b4, b5, List.drop_zero, Nat.sub_zero, List.cons_append, List.nil_append]); refine EqE.mk _ rfl ?_) | refine EqE.mk _ rfl ?_) | ((with_reducible refine EqE.idP ?_); first | ((conv => arg 1; simp only [ak, List.toList_toArray, bz, b3]); refine EqE.mk _ rfl ?_) | refine EqE.mk _ rfl ?_) | ((with_reducible refine EqE.idN ?_); first | ((conv => arg 1; simp only [ak, List.toList_toArray, aa, bb, Int.toNat_natCast, Int.toNat_zero, Int.toNat_one, List.length_cons, List.length_nil, Nat.zero_add]); refine EqE.mk _ rfl ?_)) | ((with_reducible refine EqE.idW ?_); first | with_reducible refine EqE.mk _ (av _) ?_ | with_reducible refine EqE.mk _ (ed _ _ (by omega)) ?_ | with_reducible refine EqE.mk _ (bx _ (by omega)) ?_ | with_reducible refine EqE.mk _ (et _ _ (by omega) (by omega)) ?_ | with_reducible refine EqE.mk _ (ep _ _ (by omega)) ?_ | with_reducible refine EqE.mk _ (eg _ _ (by omega) (by omega)) ?_ | with_reducible refine EqE.mk _ (c6 _ (by omega)) ?_ | with_reducible refine EqE.mk _ (dd _ (by omega)) ?_ | with_reducible refine EqE.mk _ (n_and1_32 _ (by omega)) ?_ | with_reducible refine EqE.mk _ (eo _ _ (by omega) (by omega)) ?_ | with_reducible refine EqE.mk _ (ig _ _ (by omega) (by omega)) ?_ | refine EqE.mk _ (er _ 32 (by omega)) ?_ | with_reducible refine EqE.mk _ (cc _) ?_ | with_reducible refine EqE.mk _ (gu _) ?_ | with_reducible refine EqE.mk _ (ey _ (by omega)) ?_ | with_reducible refine EqE.mk _ (a7 _ (by omega)) ?_ | with_reducible refine EqE.mk _ (ar _ (by omega)) ?_ | with_reducible refine EqE.mk _ (n_iadd _ _ (by omega)) ?_ | with_reducible refine EqE.mk _ (wrap_u64 (by omega) (by omega)) ?_ | with_reducible refine EqE.mk _ (wrap_u32 _) ?_ | with_reducible refine EqE.mk _ (ah (by omega) (by omega)) ?_ | refine EqE.mk _ rfl ?_) | ((with_reducible refine EqE.idF ?_); first | with_reducible refine EqE.mk _ (n_shr63 _) ?_ | with_reducible refine EqE.mk _ (cg _ _ (by omega)) ?_ | with_reducible refine EqE.mk _ (n_shrv32 _ _ (by omega)) ?_ | with_reducible refine EqE.mk _ (n_shr1_32 _) ?_ | refine EqE.mk _ (aj _ 4294967296 _ _ rfl) ?_ | refine EqE.mk _ (aj _ 65536 _ _ rfl) ?_ | refine EqE.mk _ (aj _ 256 _ _ rfl) ?_ | refine EqE.mk _ (aj _ 134217728 _ _ rfl) ?_ | refine EqE.mk _ (aj _ 2 _ _ rfl) ?_ | refine EqE.mk _ (aj _ 16 _ _ rfl) ?_ | refine EqE.mk _ rfl ?_) | ((with_reducible refine EqE.idM ?_); first | refine EqE.mk _ (bm _ 32) ?_ | refine EqE.mk _ (bm _ _) ?_ | refine EqE.mk _ rfl ?_) | ((with_reducible refine EqE.idI ?_); first | refine EqE.mk _ (ib _) ?_ | with_reducible refine EqE.mk _ (b9 _ _) ?_ | refine EqE.mk _ (max_eq _ _) ?_ | refine EqE.mk _ (min_eq _ _) ?_) | ((with_reducible refine EqE.idS ?_); first | refine EqE.mk _ (bo _ _ _ _ (by first | with_reducible exact af _ | with_reducible exact ab _ | exact af _ | exact ab _ | rfl) (by first | omega | (simp only [List.length_set]; omega)) (by omega)) ?_ | refine EqE.mk _ (db _ _ _ _ (by first | with_reducible exact af _ | with_reducible exact ab _ | exact af _ | exact ab _ | rfl) (by omega) (by omega) (by omega)) ?_ | (refine EqE.fP ?_; (conv => whnf); fail_if_success (show ag _ _)) | refine EqE.mk _ rfl ?_) | ((with_reducible refine EqE.idA ?_); first | refine EqE.mk _ (b8 _) ?_ | refine EqE.mk _ (da _ _) ?_ | refine EqE.mk _ rfl ?_) | ((with_reducible refine EqE.idR ?_); first | refine EqE.mk _ (ca _) ?_ | refine EqE.mk _ rfl ?_) | ((with_reducible refine EqE.idL ?_); first | refine EqE.mk _ (ax _ _ _ _ (by omega) (by omega) rfl) ?_ | refine EqE.mk _ (sl_sliceN _ _ (by omega)) ?_ | refine EqE.mk _ (bn _ _ _ (by omega) (by omega) (by omega)) ?_ | refine EqE.mk _ rfl ?_) | refine EqE.mk _ rfl ?_ | refine Cd.ro ?_ | refine Cd.dc ?_ | refine Cd.ob ?_ | refine Cd.ol ?_ | refine Cd.mk ⟨rfl, rfl⟩ ?_ | refine Cd.mk (bd _) ?_ | refine Cd.om ?_ | refine Cd.mk ?_ ?_ | refine DsE.mk [_] rfl ?_ | refine DsE.mk [_, _, _] rfl ?_)
  rfl
theorem ah2 {i : Nat} (h : i < 20) : (adr.drop (((i : Nat) : Int).toNat * 1))[0]? = some (.int .u64 ((10 ^ i : Nat) : Int)) := by
 rw [Int.toNat_natCast, Nat.mul_one]
 have : ∀ i : Fin 20, (ah1.drop i.1)[0]? = some ((10 ^ i.1 : Nat) : Int) := by decide
 have h2 := this ⟨i, h⟩
 simp only [adr, List.getElem?_drop, List.getElem?_map, Nat.add_zero] at h2 ⊢
 rw [h2]; rfl
theorem amj {v : Nat} (h : v < 18446744073709551616) : Lib.bitLen v ≤ 64 := Lib.bitLen_le v 64 (Nat.le_refl _) h
theorem abf (v : Nat) (h0 : v ≠ 0) (h : v < 18446744073709551616) : Sim Tryd.prog G0 true 63 [.int .u64 v] (.int .i64 ((dg 10 v).length : Nat)) := by
 obtain ⟨e1, e2⟩ := Lib.numDigits_eq v (by omega) h
 obtain ⟨t, ht⟩ : ∃ t, Lib.l10 (Lib.bitLen v) = t := ⟨_, rfl⟩
 have s2 := ajo (Lib.bitLen v) (amj h)
 rw [ht] at e1 e2 s2
 have hp := ah2 (i := t) (by omega)
 refine cl ay Tryd.func63 ?_
 repeat' ((conv => whnf); first | refine aw.data ?_ | refine cE ((aft v h)) ?_ | refine cE s2 ?_ | refine cE ((aff _)) ?_ | refine ao.mk _ hp ?_ | refine rgE ?_ | refine Cd.mk rfl ?_ | refine Br.t ?_ | refine Br.f ?_ | with_reducible refine Br.dec (fun _ => ?_) (fun _ => ?_) | with_reducible refine Br.br (fun _ => ?_) (fun _ => ?_) | refine Br.mk (fun _ => ?_) (fun _ => ?_) | refine ao.mk _ (az _ _ (by omega)) ?_ | refine ao.mk _ (a6 _ _ (by omega)) ?_ | refine ao.mk _ (cv _ _ _ (by first | with_reducible exact af _ | with_reducible exact ab _ | exact af _ | exact ab _ | rfl) (by first | omega | (simp only [List.length_set]; omega))) ?_ | refine ao.mk _ rfl ?_ | refine And.intro (fun _ => ?_) ?_ | (refine TkE.fL ?_; (conv => whnf); fail_if_success (show ag _ _)) | refine TkE.mk _ rfl rfl ?_ | refine Res.mk ?_ | refine a8.mk (by repeat first | exact True.intro | refine And.intro (by kernel_rfl) ?_) ?_ | refine DsE.mk (ba _) rfl ?_ | refine DsE.mk [] rfl ?_ | refine ai.cu _ _ ?_ | ((with_reducible refine EqE.idT ?_); first | ((conv => arg 1; simp only [ak, List.toList_toArray, an, ae, aa, Int.toNat_natCast, Int.toNat_zero, Int.toNat_one, b4, b5, List.drop_zero, Nat.sub_zero, List.cons_append, List.nil_append]); refine EqE.mk _ rfl ?_) | refine EqE.mk _ rfl ?_) | ((with_reducible refine EqE.idP ?_); first | ((conv => arg 1; simp only [ak, List.toList_toArray, bz, b3]); refine EqE.mk _ rfl ?_) | refine EqE.mk _ rfl ?_) | ((with_reducible refine EqE.idN ?_); first | ((conv => arg 1; simp only [ak, List.toList_toArray, aa, bb, Int.toNat_natCast, Int.toNat_zero, Int.toNat_one, List.length_cons, List.length_nil, Nat.zero_add]); refine EqE.mk _ rfl ?_)) | ((with_reducible refine EqE.idW ?_); first | with_reducible refine EqE.mk _ (av _) ?_ | with_reducible refine EqE.mk _ (ed _ _ (by omega)) ?_ | with_reducible refine EqE.mk _ (bx _ (by omega)) ?_ | with_reducible refine EqE.mk _ (et _ _ (by omega) (by omega)) ?_ | with_reducible refine EqE.mk _ (ep _ _ (by omega)) ?_ | with_reducible refine EqE.mk _ (eg _ _ (by omega) (by omega)) ?_ | with_reducible refine EqE.mk _ (c6 _ (by omega)) ?_ | with_reducible refine EqE.mk _ (dd _ (by omega)) ?_ | with_reducible refine EqE.mk _ (n_and1_32 _ (by omega)) ?_ | with_reducible refine EqE.mk _ (eo _ _ (by omega) (by omega)) ?_ | with_reducible refine EqE.mk _ (ig _ _ (by omega) (by omega)) ?_ | refine EqE.mk _ (er _ 32 (by omega)) ?_ | with_reducible refine EqE.mk _ (cc _) ?_ | with_reducible refine EqE.mk _ (gu _) ?_ | with_reducible refine EqE.mk _ (ey _ (by omega)) ?_ | with_reducible refine EqE.mk _ (a7 _ (by omega)) ?_ | with_reducible refine EqE.mk _ (ar _ (by omega)) ?_ | with_reducible refine EqE.mk _ (n_iadd _ _ (by omega)) ?_ | with_reducible refine EqE.mk _ (wrap_u64 (by omega) (by omega)) ?_ | with_reducible refine EqE.mk _ (wrap_u32 _) ?_ | with_reducible refine EqE.mk _ (ah (by omega) (by omega)) ?_ | refine EqE.mk _ rfl ?_) | ((with_reducible refine EqE.idF ?_); first | with_reducible refine EqE.mk _ (n_shr63 _) ?_ | with_reducible refine EqE.mk _ (cg _ _ (by omega)) ?_ | with_reducible refine EqE.mk _ (n_shrv32 _ _ (by omega)) ?_ | with_reducible refine EqE.mk _ (n_shr1_32 _) ?_ | refine EqE.mk _ (aj _ 4294967296 _ _ rfl) ?_ | refine EqE.mk _ (aj _ 65536 _ _ rfl) ?_ | refine EqE.mk _ (aj _ 256 _ _ rfl) ?_ | refine EqE.mk _ (aj _ 134217728 _ _ rfl) ?_ | refine EqE.mk _ (aj _ 2 _ _ rfl) ?_ | refine EqE.mk _ (aj _ 16 _ _ rfl) ?_ | refine EqE.mk _ rfl ?_) | ((with_reducible refine EqE.idM ?_); first | refine EqE.mk _ (bm _ 32) ?_ | refine EqE.mk _ (bm _ _) ?_ | refine EqE.mk _ rfl ?_) | ((with_reducible refine EqE.idI ?_); first | refine EqE.mk _ (ib _) ?_ | with_reducible refine EqE.mk _ (b9 _ _) ?_ | refine EqE.mk _ (max_eq _ _) ?_ | refine EqE.mk _ (min_eq _ _) ?_) | ((with_reducible refine EqE.idS ?_); first | refine EqE.mk _ (bo _ _ _ _ (by first | with_reducible exact af _ | with_reducible exact ab _ | exact af _ | exact ab _ | rfl) (by first | omega | (simp only [List.length_set]; omega)) (by omega)) ?_ | refine EqE.mk _ (db _ _ _ _ (by first | with_reducible exact af _ | with_reducible exact ab _ | exact af _ | exact ab _ | rfl) (by omega) (by omega) (by omega)) ?_ | (refine EqE.fP ?_; (conv => whnf); fail_if_success (show ag _ _)) | refine EqE.mk _ rfl ?_) | ((with_reducible refine EqE.idA ?_); first | refine EqE.mk _ (b8 _) ?_ | refine EqE.mk _ (da _ _) ?_ | refine EqE.mk _ rfl ?_) | ((with_reducible refine EqE.idR ?_); first | refine EqE.mk _ (ca _) ?_ | refine EqE.mk _ rfl ?_) | ((with_reducible refine EqE.idL ?_); first | refine EqE.mk _ (ax _ _ _ _ (by omega) (by omega) rfl) ?_ | refine EqE.mk _ (sl_sliceN _ _ (by omega)) ?_ | refine EqE.mk _ (bn _ _ _ (by omega) (by omega) (by omega)) ?_ | refine EqE.mk _ rfl ?_) | refine EqE.mk _ rfl ?_ | refine Cd.ro ?_ | refine Cd.dc ?_ | refine Cd.ob ?_ | refine Cd.ol ?_ | refine Cd.mk ⟨rfl, rfl⟩ ?_ | refine Cd.mk (bd _) ?_ | refine Cd.om ?_ | refine Cd.mk ?_ ?_ | refine DsE.mk [_] rfl ?_ | refine DsE.mk [_, _, _] rfl ?_)
 show D.int _ _ = D.int _ _
 rw [← am4 v h0, ← e1]
 congr 1
 by_cases hq : 10 ^ t ≤ v
 ·rw [if_pos hq, if_pos (decide_eq_true (by omega))]; omega
 ·rw [if_neg hq, if_neg (by rw [decide_eq_true_eq]; omega)]; omega
theorem getElem!_toList (d : Array UInt8) (j : Nat) (h : j < d.size) : d.toList[j]? = some d[j]! := by
 rw [Array.getElem?_toList, getElem!_pos d j h]; simp [h]
theorem aml : ∀ (n v t : Nat), (dg 10 v).length = n → t < n → (dg 10 v)[t]? = some (v / 10 ^ (n - 1 - t) % 10) := by
 intro n
 induction n with
 | zero => intro v t _ h; omega
 | succ n ih =>
  intro v t hn ht
  have h0 : v ≠ 0 := by rintro rfl; rw [en] at hn; simp at hn
  rw [ga (by omega) h0] at hn ⊢
  rw [List.length_append, List.length_singleton] at hn
  by_cases h : t = n
  ·subst h
   rw [List.getElem?_append_right (by omega), show t - (dg 10 (v / 10)).length = 0 by omega]
   simp
  ·rw [List.getElem?_append_left (by omega), ih _ _ (by omega) (by omega), Nat.div_div_eq_div_mul]
   congr 3
   rw [show n + 1 - 1 - t = (n - 1 - t) + 1 by omega, Nat.pow_succ, Nat.mul_comm]
theorem acq {v v' n : Nat} {d : Array UInt8} (hn : (dg 10 v).length = n) (h : Lib.FmtInv n v 0 v' d) : d.toList = (dg 10 v).map ch := by
 refine List.ext_getElem? fun t => ?_
 by_cases ht : t < n
 ·have h1 := h.done t (Nat.zero_le _) ht
  have h2 := h.size
  rw [getElem!_toList d t (by omega), h1, List.getElem?_map, aml n v t hn ht]
  simp only [Option.map_some, Option.some.injEq, Lib.dg]
  exact agv (Nat.mod_lt _ (by omega))
 ·rw [List.getElem?_eq_none (by simp [h.size]; omega), List.getElem?_eq_none (by simp; omega)]
def lb (l : List UInt8) : List A := l.map fun x => A.d (.int .u8 (x.toNat : Int))
theorem ahk {l : List UInt8} {j : Nat} (h : j < l.length) : (lb l)[j]? = some (A.d (.int .u8 ((l[j]).toNat : Int))) := by
 simp [lb, h]
theorem zn (ks : List Nat) (l : List UInt8) : A.bc ks (lb l) = true := by
 have : lb l = (l.map fun x => D.int .u8 (x.toNat : Int)).map A.d := by simp [lb]
 rw [this]; exact A.eu _ _
theorem ag9 (v : Nat) (z : List UInt8) (h0 : v ≠ 0) (h : v < 18446744073709551616) (hz : (dg 10 v).length ≤ z.length) (hz2 : z.length < 1000) :
  qp Tryd.prog G0 64 [.own 1000000 0 (dg 10 v).length 1, .d (.int .u64 v)] [(1000000, false, lb z)] (.d (.tup [])) [(1000000, false, lb ((dg 10 v).map ch ++ z.drop (dg 10 v).length))] := by
 refine ⟨by kernel_rfl, rfl, fun x hx => ?_, rfl, fun x hx => ?_, fun S w β vs hrel hargs => ?_⟩
 ·simp only [List.mem_cons, List.not_mem_nil, or_false] at hx
  subst hx; exact zn _ _
 ·simp only [List.mem_cons, List.not_mem_nil, or_false] at hx
  subst hx; exact zn _ _
 obtain ⟨n, hn⟩ : ∃ n, (dg 10 v).length = n := ⟨_, rfl⟩
 have hn0 : n ≠ 0 := by
  intro e; rw [e, List.length_eq_zero_iff, ow (by omega)] at hn; exact h0 hn
 rw [hn] at hz hargs ⊢
 simp only [ARs, AR, DR] at hargs
 obtain ⟨u1, us1, rfl, hu1, u2, us2, rfl, rfl, rfl⟩ := hargs
 obtain ⟨k, hk, c, C0, T0, fr0, rfl, hc, hC0, hlen⟩ : ∃ k, β 1000000 = some (some k) ∧ ∃ c C T fr, u1 = .slice (some ⟨k, 0, none⟩) n c ∧ n ≤ c ∧ w.heap[k]? = some (.cells C T fr) ∧ 0 + c * 1 ≤ C.size := by
  rcases hu1 with h | h
  ·exact h
  ·exact absurd h.1 hn0
 obtain ⟨C, T, hC, hCl, hCc⟩ := hrel.rd 1000000 k false (lb z) hk rfl
 rw [show (lb z).length = z.length by simp [lb]] at hCl
 have hcell : ∀ j, (hj : j < z.length) → C[j]? = some (.int .u8 ((z[j]).toNat : Int)) := by
  intro j hj
  obtain ⟨u, hu, hR⟩ := hCc j _ (ahk hj)
  simp only [AR, DR] at hR
  rw [hu, hR]
 have hd : (z.take n).toArray.size = n := by simp; omega
 have hH : Sort.Holds (fun (b : UInt8) => Value.int .u8 (b.toNat : Int)) w k 0 (z.take n).toArray := by
  intro j hj
  rw [hd] at hj
  refine ⟨?_, Lib.frozen_of_heap hC _⟩
  rw [cp hC, Nat.zero_add, hcell j (by omega)]
  congr 2
  rw [getElem!_pos _ j (by rw [hd]; exact hj)]
  simp
 have hcalls := Tryd.internal_strconv_formatBase10 k 0 c v (z.take n).toArray w hH (by
  rw [hd]
  have := vi (sy (b := 10) (by omega) v)
  rwa [vh (by omega), hn] at this) h (by rw [hd]; omega)
 rw [hd] at hcalls
 refine hcalls.mono ?_
 rintro e w' ⟨rfl, n', v', dk, rfl, hI⟩
 have hdk := acq hn hI
 have hsz : dk.size = n := hI.size
 have hw := hrel.write (w' := (Sort.putRow (fun (b : UInt8) => Value.int .u8 (b.toNat : Int)) w k 0 dk).drewN n') (l' := lb ((dg 10 v).map ch ++ z.drop n)) (C' := Sort.putCells (fun (b : UInt8) => Value.int .u8 (b.toNat : Int)) 0 dk C) hk rfl hC (by
   simp [Sort.putRow, Sort.mapBlock, Array.getElem?_modify, hC, Sort.onCells]) (by simp [Sort.putCells]) (by
   intro j hj
   simp only [World.heap_drewN, Sort.putRow, Sort.mapBlock, Array.getElem?_modify]
   rw [if_neg (fun e => hj e.symm)]) (by simp [Sort.putRow, Sort.mapBlock]) rfl rfl rfl (by
   simp only [lb, List.length_map, List.length_append, hn, List.length_drop, Sort.putCells, Array.size_mapIdx]; omega) (by
   intro j x hx
   have hj : j < ((dg 10 v).map ch ++ z.drop n).length := by
    have := (List.getElem?_eq_some_iff.1 hx).1
    simpa [lb] using this
   rw [ahk hj] at hx
   cases hx
   simp only [List.length_append, List.length_map, List.length_drop, hn] at hj
   have hj2 : j < C.size := by omega
   simp only [Sort.putCells, Array.getElem?_mapIdx]
   rw [hcell j (by omega)]
   refine ⟨_, rfl, ?_⟩
   simp only [AR, DR, Nat.zero_le, true_and, Nat.zero_add, Nat.sub_zero, hsz]
   by_cases hjn : j < n
   ·rw [if_pos hjn]
    congr 2
    have h1 := getElem!_toList dk j (by omega)
    rw [hdk] at h1
    rw [List.getElem_append_left (by simpa [hn] using hjn)]
    rw [List.getElem?_eq_getElem (by simpa [hn] using hjn)] at h1
    exact (congrArg UInt8.toNat (Option.some.inj h1)).symm
   ·rw [if_neg hjn]
    congr 2
    rw [List.getElem_append_right (by simpa [hn] using hjn)]
    simp only [List.length_map, hn, List.getElem_drop]
    congr 2; omega)
 exact ⟨_, β, S, rfl, hw.1, by simp only [AR, DR, DRs]; exact ⟨#[], rfl, rfl⟩⟩
end Go.Ev.Ar

-- STR
namespace Go.Ev.Ar
open Go Go.Ev Go.Proofs Go.RowKit
theorem agu (w : World) (e : TypeId) (s : ByteArray) : Below w.heap.size w (Lib.bytesWorld w e s) :=
 ⟨rfl, rfl, rfl, by rw [Lib.bytesWorld_size]; omega, fun k hk => Lib.bytesWorld_at_old w e s k hk⟩
theorem puM : ∀ (l : List UInt8) (acc : Nat), (∀ x ∈ l, jf x = true) → acc * 10 ^ l.length + dv 10 (dgs l) ≤ 4294967295 → Lib.parseUintM (2 ^ 32 - 1) acc l = .ok (acc * 10 ^ l.length + dv 10 (dgs l))
 | [], acc, _, _ => by simp [Lib.parseUintM, dgs, dv]
 | c :: r, acc, h, hb => by
  have hc : 48 ≤ c.toNat ∧ c.toNat ≤ 57 := by simpa [jf] using h c (List.mem_cons_self ..)
  have e : (acc * 10 + (c.toNat - 48)) * 10 ^ r.length + dv 10 (dgs r) = acc * 10 ^ (c :: r).length + dv 10 (dgs (c :: r)) := by
   show _ = acc * 10 ^ (r.length + 1) + dv 10 ((c.toNat - 48) :: dgs r)
   rw [mg, show (dgs r).length = r.length by simp [dgs], Nat.pow_succ, Nat.add_mul, Nat.mul_comm (10 ^ r.length) 10, Nat.mul_assoc, Nat.add_assoc]
  have h1 : acc * 10 + (c.toNat - 48) ≤ (acc * 10 + (c.toNat - 48)) * 10 ^ r.length := Nat.le_mul_of_pos_right _ (Nat.pow_pos (by omega))
  rw [Lib.parseUintM, if_pos hc, if_neg (by omega), if_neg (by omega), puM r _ (fun x hx => h x (List.mem_cons_of_mem _ hx)) (by omega), e]
theorem afy (l : List UInt8) (h0 : l ≠ []) (hd : ∀ x ∈ l, jf x = true) (hl : l.length ≤ 9) : Sim Tryd.prog G0 true 59 [.str (bst l), .int .i64 10, .int .i64 32] (.tup [.int .u64 (dv 10 (dgs l)), .raw .nilIface]) := by
 have hb : dv 10 (dgs l) < 10 ^ 9 := by
  refine Nat.lt_of_lt_of_le (vi (vd hd)) (Nat.pow_le_pow_right (by omega) ?_)
  simpa [dgs] using hl
 have h2 : Lib.parseUintB 32 (bst l).data.toList = .ok (dv 10 (dgs l)) := by
  rw [nn, Lib.parseUintB, if_neg h0, puM l 0 hd (by omega)]; simp
 refine aad (vs := [.string (bst l), .int .i64 10, .int .i64 32]) (rv := .tuple #[.int .u64 (dv 10 (dgs l) : Nat), .nilIface]) (by kernel_rfl) rfl (fun S w => ?_) fun w => ?_
 ·simp only [DR, DRs]
  exact ⟨_, rfl, _, _, rfl, rfl, _, _, rfl, rfl, rfl⟩
 ·refine (Tryd.strconv_ParseUint_10_at32_ok (bst l) (by rw [aa]; omega) _ h2 w).mono ?_
  rintro e w' ⟨rfl, rfl | rfl⟩
  ·exact ⟨rfl, Below.refl _ _⟩
  ·exact ⟨rfl, agu _ _ _⟩
theorem amt {k : Nat} (hk : (ofN k).length < 2 ^ 30) : Sim Tryd.prog G0 false 28 [sl (ofN k), sl [1000000000]] (sl (ofN (k * 1000000000))) := by
 have e : nv [1000000000] = 1000000000 := rfl
 have h := aen (ofN k) [1000000000] hk (by simp)
 rw [di, e] at h; exact h
theorem amq {k d : Nat} (hk : (ofN k).length < 2 ^ 30) (hd : d < 4294967296) : Sim Tryd.prog G0 false 60 [sl (ofN k), sl [UInt32.ofNat d]] (sl (ofN (k + d))) := by
 have h := ai4 (ofN k) [UInt32.ofNat d] hk (by simp)
 have e : nv [UInt32.ofNat d] = d := by
  show (UInt32.ofNat d).toNat + 4294967296 * 0 = d
  simp only [UInt32.toNat_ofNat']; omega
 rw [di, e] at h; exact h
theorem am6 {d : Nat} (h : d < 4294967296) : D.slice 1 [D.int .u32 ((d : Nat) : Int)] = sl [UInt32.ofNat d] := by
 show _ = D.slice 1 [D.int .u32 (((UInt32.ofNat d).toNat : Nat) : Int)]
 simp only [UInt32.toNat_ofNat']
 rw [Nat.mod_eq_of_lt (by omega)]
theorem akm {d : Nat} (h : d < 4294967296) : IntKind.u32.wrap ((d : Nat) : Int) = ((d : Nat) : Int) := by rw [cc, Nat.mod_eq_of_lt h]
theorem ajb (l m : List UInt8) : dgs (l ++ m) = dgs l ++ dgs m := by simp [dgs]
theorem kx (l : List UInt8) : (dgs l).length = l.length := by simp [dgs]
theorem yf {v : Nat} {l : List Nat} (h : ∀ d ∈ l, d < 10) (hv : v ≤ dv 10 l) : (ofN v).length ≤ l.length := by
 have h1 := adi h
 rw [cj] at h1 ⊢
 omega
theorem aj8 {i : Nat} (h : 0 < i) (h2 : i < 1099511627776) : IntKind.i64.wrap ((i : Int) - 1) = ((i - 1 : Nat) : Int) := by rw [ah (by omega) (by omega)]; omega
theorem akh {i n : Nat} (h : i + 1 = n) (h2 : n < 1099511627776) : IntKind.i64.wrap ((i : Int) + 1) = ((n : Nat) : Int) := by rw [ah (by omega) (by omega)]; omega
theorem w7 (l : List UInt8) (hl : l.length < 2 ^ 20) (hd : ∀ x ∈ l, jf x = true) : Sim Tryd.prog G0 false 43 [.str (bst l)] (sl (ofN (dv 10 (dgs l)))) := by
 have hdl := vd hd
 refine cl ay Tryd.func43 ?_
 repeat' ((conv => whnf); first | refine aw.data ?_ | refine rgE ?_ | refine Cd.mk rfl ?_ | refine Br.t ?_ | refine Br.f ?_ | with_reducible refine Br.eqd ?_ | with_reducible refine Br.eqb ?_ | with_reducible refine Br.dec (fun _ => ?_) (fun _ => ?_) | with_reducible refine Br.br (fun _ => ?_) (fun _ => ?_) | refine Br.mk (fun _ => ?_) (fun _ => ?_) | refine ao.mk _ rfl ?_ | refine And.intro (fun _ => ?_) ?_ | (refine TkE.fL ?_; (conv => whnf); fail_if_success (show ag _ _)) | refine TkE.mk _ rfl rfl ?_ | refine Res.mk ?_ | refine a8.mk (by repeat first | exact True.intro | refine And.intro (by kernel_rfl) ?_) ?_ | refine DsE.mk [] rfl ?_ | refine ai.cu _ _ ?_ | ((with_reducible refine EqE.idT ?_); first | ((conv => arg 1; simp only [ak, List.toList_toArray, an, ae, aa, Int.toNat_natCast, Int.toNat_zero, Int.toNat_one, b4, b5, List.drop_zero, Nat.sub_zero, List.cons_append, List.nil_append]); refine EqE.mk _ rfl ?_) | refine EqE.mk _ rfl ?_) | ((with_reducible refine EqE.idP ?_); first | ((conv => arg 1; simp only [ak, List.toList_toArray, bz, b3]); refine EqE.mk _ rfl ?_) | refine EqE.mk _ rfl ?_) | ((with_reducible refine EqE.idN ?_); first | ((conv => arg 1; simp only [ak, List.toList_toArray, aa, bb, Int.toNat_natCast, Int.toNat_zero, Int.toNat_one, List.length_cons, List.length_nil, Nat.zero_add]); refine EqE.mk _ rfl ?_)) | ((with_reducible refine EqE.idW ?_); first | with_reducible refine EqE.mk _ (a7 _ (by omega)) ?_ | with_reducible refine EqE.mk _ (ar _ (by omega)) ?_ | refine EqE.mk _ (ah (by omega) (by omega)) ?_ | refine EqE.mk _ rfl ?_) | ((with_reducible refine EqE.idM ?_); refine EqE.mk _ rfl ?_) | ((with_reducible refine EqE.idI ?_); first | refine EqE.mk _ (max_eq _ _) ?_ | refine EqE.mk _ (min_eq _ _) ?_) | ((with_reducible refine EqE.idS ?_); first | (refine EqE.fP ?_; (conv => whnf); fail_if_success (show ag _ _)) | refine EqE.mk _ rfl ?_) | ((with_reducible refine EqE.idL ?_); first | refine EqE.mk _ (ax _ _ _ _ (by omega) (by omega) rfl) ?_ | refine EqE.mk _ rfl ?_) | refine EqE.mk _ rfl ?_ | refine Cd.ro ?_ | refine Cd.dc ?_ | refine Cd.ob ?_ | refine Cd.ol ?_ | refine Cd.mk ⟨rfl, rfl⟩ ?_ | refine Cd.os ?_ | refine Cd.mk ?_ ?_ | refine DsE.mk [_] rfl ?_ | refine DsE.mk [_, _, _] rfl ?_)
 refine ⟨[], [0, 3], [], fun m xs h => ∃ (r : List UInt8) (v : Nat), m = r.length ∧ r.length ≤ l.length ∧ (∀ x ∈ r, jf x = true) ∧ dv 10 (dgs l) = v * 10 ^ r.length + dv 10 (dgs r) ∧ (v = 0 ∨ r.length % 9 = 0) ∧
   xs = [.d (.str (bst r)), .d (sl (ofN v))] ∧ h = [],
  ⟨_, _, _, ⟨.inr rfl, rfl, rfl, by first | rfl | (repeat first | exact all_nil _ | refine cz _ _ _ _ _ ?_)⟩, l, 0, rfl, Nat.le_refl _, hd, by simp, .inl rfl, by rw [dj]; rfl, rfl⟩, ?_⟩
 rintro m xs h ⟨r, v, rfl, hr, hrd, hv, h9, rfl, rfl⟩
 have hvl : v ≤ dv 10 (dgs l) := by
  have := Nat.le_mul_of_pos_right v (Nat.pow_pos (n := r.length) (show 0 < 10 by omega)); omega
 have hvo := yf hdl hvl
 rw [kx] at hvo
 by_cases h0 : r.length = 0
 ·have e : r = [] := List.length_eq_zero_iff.1 h0
  subst e
  have e2 : dv 10 (dgs l) = v := by rw [hv]; simp [dgs, dv]
  repeat' ((conv => whnf); first | refine aw.data ?_ | with_reducible refine Br.bf fun _ => ?_ | refine rgE ?_ | refine Cd.mk rfl ?_ | refine Br.t ?_ | refine Br.f ?_ | with_reducible refine Br.eqd ?_ | with_reducible refine Br.eqb ?_ | with_reducible refine Br.dec (fun _ => ?_) (fun _ => ?_) | with_reducible refine Br.br (fun _ => ?_) (fun _ => ?_) | refine Br.mk (fun _ => ?_) (fun _ => ?_) | refine ao.mk _ rfl ?_ | refine And.intro (fun _ => ?_) ?_ | (refine TkE.fL ?_; (conv => whnf); fail_if_success (show ag _ _)) | refine TkE.mk _ rfl rfl ?_ | refine Res.mk ?_ | refine a8.mk (by repeat first | exact True.intro | refine And.intro (by kernel_rfl) ?_) ?_ | refine DsE.mk [] rfl ?_ | refine ai.cu _ _ ?_ | ((with_reducible refine EqE.idT ?_); first | ((conv => arg 1; simp only [ak, List.toList_toArray, an, ae, aa, Int.toNat_natCast, Int.toNat_zero, Int.toNat_one, b4, b5, List.drop_zero, Nat.sub_zero, List.cons_append, List.nil_append]); refine EqE.mk _ rfl ?_) | refine EqE.mk _ rfl ?_) | ((with_reducible refine EqE.idP ?_); first | ((conv => arg 1; simp only [ak, List.toList_toArray, bz, b3]); refine EqE.mk _ rfl ?_) | refine EqE.mk _ rfl ?_) | ((with_reducible refine EqE.idN ?_); first | ((conv => arg 1; simp only [ak, List.toList_toArray, aa, bb, Int.toNat_natCast, Int.toNat_zero, Int.toNat_one, List.length_cons, List.length_nil, Nat.zero_add]); refine EqE.mk _ rfl ?_)) | ((with_reducible refine EqE.idW ?_); first | with_reducible refine EqE.mk _ (a7 _ (by omega)) ?_ | with_reducible refine EqE.mk _ (ar _ (by omega)) ?_ | refine EqE.mk _ (ah (by omega) (by omega)) ?_ | refine EqE.mk _ rfl ?_) | ((with_reducible refine EqE.idM ?_); refine EqE.mk _ rfl ?_) | ((with_reducible refine EqE.idI ?_); first | refine EqE.mk _ (max_eq _ _) ?_ | refine EqE.mk _ (min_eq _ _) ?_) | ((with_reducible refine EqE.idS ?_); first | (refine EqE.fP ?_; (conv => whnf); fail_if_success (show ag _ _)) | refine EqE.mk _ rfl ?_) | ((with_reducible refine EqE.idL ?_); first | refine EqE.mk _ (ax _ _ _ _ (by omega) (by omega) rfl) ?_ | refine EqE.mk _ rfl ?_) | refine EqE.mk _ rfl ?_ | refine Cd.ro ?_ | refine Cd.dc ?_ | refine Cd.ob ?_ | refine Cd.ol ?_ | refine Cd.mk ⟨rfl, rfl⟩ ?_ | refine Cd.os ?_ | refine Cd.mk ?_ ?_ | refine DsE.mk [_] rfl ?_ | refine DsE.mk [_, _, _] rfl ?_)
  show sl _ = sl _
  rw [e2]
 ·obtain ⟨n, hn⟩ : ∃ n, (r.length - 1) % 9 + 1 = n := ⟨_, rfl⟩
  have hn9 : n ≤ 9 ∧ n ≤ r.length ∧ 0 < n := by omega
  have hch : v = 0 ∨ (r.take n).length = 9 := by
   rw [List.length_take]; omega
  have s1 := afy (r.take n) (by intro h; have := congrArg List.length h; simp only [List.length_take, List.length_nil] at this; omega) (fun x hx => hrd x (List.mem_of_mem_take hx)) (by rw [List.length_take]; omega)
  obtain ⟨c, hc⟩ : ∃ c, dv 10 (dgs (r.take n)) = c := ⟨_, rfl⟩
  have hcb : c < 10 ^ 9 := by
   rw [← hc]
   refine Nat.lt_of_lt_of_le (vi (vd fun x hx => hrd x (List.mem_of_mem_take hx))) (Nat.pow_le_pow_right (by omega) ?_)
   rw [kx, List.length_take]; omega
  rw [hc] at s1
  have hstep : v * 1000000000 + c = v * 10 ^ n + c := by
   have := ag4 (a := v) (c := dgs (r.take n)) (by rw [kx]; exact hch)
   rw [hc, kx, List.length_take, Nat.min_eq_left hn9.2.1] at this; exact this
  have hnew : dv 10 (dgs l) = (v * 1000000000 + c) * 10 ^ (r.drop n).length + dv 10 (dgs (r.drop n)) := by
   rw [hv, hstep]
   conv => lhs; rw [← List.take_append_drop n r, ajb, zc, hc, kx, List.length_append, List.length_take, Nat.min_eq_left hn9.2.1, Nat.pow_add, ← Nat.mul_assoc, ← Nat.add_assoc, ← Nat.add_mul]
  have hle : v * 1000000000 + c ≤ dv 10 (dgs l) := by
   have := Nat.le_mul_of_pos_right (v * 1000000000 + c) (Nat.pow_pos (n := (r.drop n).length) (show 0 < 10 by omega)); omega
  have hb1 := yf hdl (Nat.le_trans (Nat.le_add_right _ _) hle)
  rw [kx] at hb1
  repeat' ((conv => whnf); first | refine aw.data ?_ | with_reducible refine Br.bt fun _ => ?_ | refine cE s1 ?_ | refine cE ((amt (k := v) (by omega))) ?_ | refine cE ((amq (k := v * 1000000000) (d := c) (by omega) (by omega))) ?_ | refine DsE.mk (ba [1000000000]) rfl ?_ | refine rgE ?_ | refine Cd.mk rfl ?_ | refine Br.t ?_ | refine Br.f ?_ | with_reducible refine Br.eqd ?_ | with_reducible refine Br.eqb ?_ | with_reducible refine Br.dec (fun _ => ?_) (fun _ => ?_) | with_reducible refine Br.br (fun _ => ?_) (fun _ => ?_) | refine Br.mk (fun _ => ?_) (fun _ => ?_) | refine ao.mk _ rfl ?_ | refine And.intro (fun _ => ?_) ?_ | (refine TkE.fL ?_; (conv => whnf); fail_if_success (show ag _ _)) | refine TkE.mk _ rfl rfl ?_ | refine Res.mk ?_ | refine a8.mk (by repeat first | exact True.intro | refine And.intro (by kernel_rfl) ?_) ?_ | refine DsE.mk [] rfl ?_ | refine ai.cu _ _ ?_ | ((with_reducible refine EqE.idT ?_); first | ((conv => arg 1; simp only [ak, List.toList_toArray, an, ae, aa, Int.toNat_natCast, Int.toNat_zero, Int.toNat_one, b4, b5, List.drop_zero, Nat.sub_zero, List.cons_append, List.nil_append]); refine EqE.mk _ rfl ?_) | refine EqE.mk _ rfl ?_) | ((with_reducible refine EqE.idP ?_); first | ((conv => arg 1; simp only [ak, List.toList_toArray, bz, b3]); refine EqE.mk _ rfl ?_) | refine EqE.mk _ rfl ?_) | ((with_reducible refine EqE.idN ?_); first | ((conv => arg 1; simp only [ak, List.toList_toArray, aa, bb, Int.toNat_natCast, Int.toNat_zero, Int.toNat_one, List.length_cons, List.length_nil, Nat.zero_add]); refine EqE.mk _ rfl ?_)) | ((with_reducible refine EqE.idW ?_); first | refine EqE.mk _ (akm (d := c) (by omega)) ?_ | refine EqE.mk _ (aj8 (i := r.length) (by omega) (by omega)) ?_ | refine EqE.mk _ (akh hn (by omega)) ?_ | with_reducible refine EqE.mk _ (a7 _ (by omega)) ?_ | with_reducible refine EqE.mk _ (ar _ (by omega)) ?_ | refine EqE.mk _ (ah (by omega) (by omega)) ?_ | refine EqE.mk _ rfl ?_) | ((with_reducible refine EqE.idM ?_); first | refine EqE.mk _ (bm (r.length - 1) 9) ?_ | refine EqE.mk _ rfl ?_) | ((with_reducible refine EqE.idI ?_); first | refine EqE.mk _ (max_eq _ _) ?_ | refine EqE.mk _ (min_eq _ _) ?_) | ((with_reducible refine EqE.idS ?_); first | (refine EqE.fP ?_; (conv => whnf); fail_if_success (show ag _ _)) | refine EqE.mk _ rfl ?_) | ((with_reducible refine EqE.idL ?_); first | refine EqE.mk (sl [1000000000]) rfl ?_ | refine EqE.mk _ (am6 (d := c) (by omega)) ?_ | refine EqE.mk _ (ax _ _ _ _ (by omega) (by omega) rfl) ?_ | refine EqE.mk _ rfl ?_) | refine EqE.mk _ rfl ?_ | refine Cd.ro ?_ | refine Cd.dc ?_ | refine Cd.ob ?_ | refine Cd.ol ?_ | refine Cd.mk ⟨rfl, rfl⟩ ?_ | refine Cd.os ?_ | refine Cd.mk ?_ ?_ | refine DsE.mk [_] rfl ?_ | refine DsE.mk [_, _, _] rfl ?_)
  refine ⟨_, ⟨r.drop n, v * 1000000000 + c, rfl, by rw [List.length_drop]; omega, fun x hx => hrd x (List.mem_of_mem_drop hx), hnew, .inr ?_, rfl, rfl⟩, by rw [List.length_drop]; omega⟩
  rw [List.length_drop]; omega
end Go.Ev.Ar

-- STR
namespace Go.Ev.Ar
open Go Go.Ev Go.Proofs
theorem aj9 (r : List UInt8) : prs (45 :: r) = if nd r = 0 then (0, 1, if r.length = 0 then 15 else 14) else if nth 0 r 0 = 48 then (0, 1, 14) else if 400 < nd r then (0, 401, 14) else if nd r < r.length then (0, 1 + nd r, 14) else (-(dv 10 (dgs r) : Int), r.length + 1, 0) := by
 have hf : pn (45 :: r) = 1 := rfl
 unfold prs
 simp only [hf, List.drop_succ_cons, List.drop_zero, List.length_cons]
 have h1 : (1 = r.length + 1) ↔ r.length = 0 := by omega
 have h4 : (1 + nd r < r.length + 1) ↔ nd r < r.length := by omega
 simp only [h1, h4, and_true]
 cases r with
 | nil => rfl
 | cons y r =>
  have h2 : ((y :: r).head? = some 48) ↔ nth 0 (y :: r) 0 = 48 := by simp [nth]
  simp only [h2, if_true]
  split
  ·rfl
  ·split
   ·rfl
   ·rename_i h
    rw [if_neg (fun q => h q.1)]
theorem aka {l : List UInt8} (h : l.head? ≠ some 45) : prs l = if nd l = 0 then (0, 0, if l.length = 0 then 15 else 14) else if nth 0 l 0 = 48 ∧ 1 < nd l then (0, 1, 14) else if 400 < nd l then (0, 400, 14) else if nd l < l.length then (0, nd l, 14) else ((dv 10 (dgs l) : Int), l.length, 0) := by
 have hf : pn l = 0 := by simp [pn, h]
 unfold prs
 simp only [hf, List.drop_zero, Nat.zero_add]
 have h1 : (0 = l.length) ↔ l.length = 0 := by omega
 simp only [h1]
 cases l with
 | nil => rfl
 | cons y r =>
  have h2 : ((y :: r).head? = some 48) ↔ nth 0 (y :: r) 0 = 48 := by simp [nth]
  simp only [h2]
  simp
theorem aeq (l : List UInt8) : nd l ≤ l.length := (List.takeWhile_sublist _).length_le
theorem aep {y : UInt8} {r : List UInt8} (h : nd (y :: r) ≠ 0) : jf y = true := by
 simp only [nd, List.takeWhile_cons] at h
 split at h
 ·assumption
 ·simp at h
theorem aiz : zD 0 = D.agg [.bool false, .slice 0 []] := by
 show D.agg [.bool (dm 0), sl (ofN 0)] = _
 rw [dj]; rfl
def pD (p : Int × Nat × Nat) : D := .tup [zD p.1, .int .i64 (p.2.1 : Nat), .int .i64 (p.2.2 : Nat)]
theorem kn {k c : Nat} : pD (0, k, c) = .tup [.agg [.bool false, .slice 0 []], .int .i64 (k : Int), .int .i64 (c : Int)] := by
 unfold pD; rw [aiz]
theorem oo {x y : D} {a b c d : Int} (h1 : x = y) (h2 : a = b) (h3 : c = d) : D.tup [x, .int .i64 a, .int .i64 c] = .tup [y, .int .i64 b, .int .i64 d] := by rw [h1, h2, h3]
end Go.Ev.Ar

-- STR
namespace Go.Ev.Ar
open Go Go.Ev Go.Proofs Go.RowKit
theorem ahr : ∀ {l : List UInt8} {i : Nat}, i < nd l → nt l i = true
 | [], i, h => by simp [nd] at h
 | x :: l, 0, h => by
  have := aep (r := l) (y := x) (by omega)
  simp [nt, nth, this]
 | x :: l, i + 1, h => by
  have hx := aep (r := l) (y := x) (by omega)
  have h2 : i < nd l := by simp only [nd, List.takeWhile_cons, hx, if_true, List.length_cons] at h; exact (by unfold nd; omega)
  have := ahr h2
  simp only [nt, nth, List.length_cons, Bool.and_eq_true, decide_eq_true_eq] at this ⊢
  exact ⟨by omega, this.2⟩
theorem ade : ∀ {l : List UInt8}, nt l (nd l) = false
 | [] => rfl
 | x :: l => by
  by_cases hx : jf x = true
  ·have e : nd (x :: l) = nd l + 1 := by simp [nd, hx]
   have := ade (l := l)
   rw [e]
   simp only [nt, nth, List.length_cons] at this ⊢
   rw [show decide (nd l + 1 < l.length + 1) = decide (nd l < l.length) by simp]
   exact this
  ·have e : nd (x :: l) = 0 := by simp [nd, hx]
   rw [e]; simp [nt, nth, hx]
theorem uh (l : List UInt8) : ∀ x ∈ l.take (nd l), jf x = true := by
 have : l.take (nd l) = l.takeWhile jf := by
  unfold nd
  exact (List.prefix_iff_eq_take.1 (List.takeWhile_prefix _)).symm
 rw [this]
 intro x hx
 have := List.all_takeWhile (l := l) (p := jf)
 exact List.all_eq_true.1 this x hx
theorem acn (r : List UInt8) (i : Nat) : nt (45 :: r) (i + 1) = nt r i := by
 simp [nt, nth]
def rd (l : List UInt8) (most : Nat) : Int × Nat × Nat :=
 let f := pn l
 let r := l.drop f
 let d := nd r
 if f = l.length then (0, f, 15)
 else if d = 0 ∨ (nth 0 r 0 = 48 ∧ f = 1) then (0, f, 14)
 else if nth 0 r 0 = 48 ∧ 1 < d then (0, f + 1, 14)
 else if most < d then (0, f + most, 14)
 else (zv (decide (f = 1)) (ofN (dv 10 (dgs (r.take d)))), f + d, 0)
theorem ah6 (r : List UInt8) (most : Nat) : rd (45 :: r) most = if r.length = 0 then (0, 1, 15) else if nd r = 0 ∨ nth 0 r 0 = 48 then (0, 1, 14) else if most < nd r then (0, 1 + most, 14) else (zv true (ofN (dv 10 (dgs (r.take (nd r))))), 1 + nd r, 0) := by
 have hf : pn (45 :: r) = 1 := rfl
 unfold rd
 simp only [hf, List.drop_succ_cons, List.drop_zero, List.length_cons, and_true, decide_true]
 have h1 : (1 = r.length + 1) ↔ r.length = 0 := by omega
 simp only [h1]
 split
 ·rfl
 ·split
  ·rfl
  ·rename_i h
   rw [if_neg (fun q => h (.inr q.1))]
theorem ah7 {l : List UInt8} (h : l.head? ≠ some 45) (most : Nat) : rd l most = if l.length = 0 then (0, 0, 15) else if nd l = 0 then (0, 0, 14) else if nth 0 l 0 = 48 ∧ 1 < nd l then (0, 1, 14) else if most < nd l then (0, most, 14) else (zv false (ofN (dv 10 (dgs (l.take (nd l))))), nd l, 0) := by
 have hf : pn l = 0 := by simp [pn, h]
 unfold rd
 simp only [hf, List.drop_zero, Nat.zero_add]
 have h1 : (0 = l.length) ↔ l.length = 0 := by omega
 have h2 : ((0 : Nat) = 1) = False := by simp
 simp only [h1, h2, and_false, or_false, decide_false]
theorem ah8 (r : List UInt8) (most : Nat) (hl : r.length < 2 ^ 19) (h1 : 1 ≤ most) (h2 : most < 2 ^ 40) : Sim Tryd.prog G0 false 25 [.str (bst (45 :: r)), .int .i64 most] (pD (rd (45 :: r) most)) := by
 have s1 := wh (45 :: r) (by simp; omega)
 rw [show decide ((45 :: r : List UInt8).head? = some 45) = true from rfl] at s1
 have hp := ah6 r most
 obtain ⟨p, hpp⟩ : ∃ p, rd (45 :: r) most = p := ⟨_, rfl⟩
 rw [hpp] at hp ⊢
 have hlen : (45 :: r : List UInt8).length = r.length + 1 := rfl
 have hn := aeq r
 have sd : ∀ i, i < 2 ^ 20 → Sim Tryd.prog G0 true 42 [.str (bst (45 :: r)), .int .i64 (i + 1 : Nat)] (.bool (nt r i)) := fun i hi => by
  have := s7 (45 :: r) (i + 1) (by omega) (by omega)
  rw [acn] at this; exact this
 obtain ⟨x, hx⟩ : ∃ x, nth 0 r 0 = x := ⟨_, rfl⟩
 have hx' : nth 0 (45 :: r) 1 = x := hx
 have hsub : ∀ i : Nat, (bst (45 :: r)).extract ((1 : Nat) : Int).toNat ((i + 1 : Nat) : Int).toNat = bst (r.take i) := fun i => by
  rw [ae, Int.toNat_natCast, Int.toNat_natCast]; rfl
 have s3 := w7 (r.take (nd r)) (by rw [List.length_take]; omega) (uh r)
 have hvl : (ofN (dv 10 (dgs (r.take (nd r))))).length ≤ 4194304 := by
  have := adi (vd (uh r))
  rw [kx, List.length_take] at this; omega
 have s4 := gf (.mk true (ofN (dv 10 (dgs (r.take (nd r))))) hvl)
 obtain ⟨d, hd⟩ : ∃ d, nd r = d := ⟨_, rfl⟩
 have hend : nt r d = false := hd ▸ ade
 have hat : ∀ i, i < d → nt r i = true := fun i hi => ahr (hd ▸ hi)
 rw [hd] at hp hn s3 s4
 obtain ⟨v, hv⟩ : ∃ v, dv 10 (dgs (r.take d)) = v := ⟨_, rfl⟩
 rw [hv] at hp s3 s4
 refine cl ay Tryd.func25 ?_
 repeat' ((conv => whnf); first | refine aw.data ?_ | refine rgE ?_ | refine Cd.mk rfl ?_ | refine Br.t ?_ | refine Br.f ?_ | with_reducible refine Br.eqd ?_ | with_reducible refine Br.eqb ?_ | with_reducible refine Br.dec (fun _ => ?_) (fun _ => ?_) | with_reducible refine Br.br (fun _ => ?_) (fun _ => ?_) | refine Br.mk (fun _ => ?_) (fun _ => ?_) | refine ao.mk _ rfl ?_ | refine And.intro (fun _ => ?_) ?_ | (refine TkE.fL ?_; (conv => whnf); fail_if_success (show ag _ _)) | refine TkE.mk _ rfl rfl ?_ | refine Res.mk ?_ | refine a8.mk (by repeat first | exact True.intro | refine And.intro (by kernel_rfl) ?_) ?_ | refine DsE.mk [] rfl ?_ | refine ai.cu _ _ ?_ | ((with_reducible refine EqE.idT ?_); first | ((conv => arg 1; simp only [ak, List.toList_toArray, an, ae, aa, Int.toNat_natCast, Int.toNat_zero, Int.toNat_one, b4, b5, List.drop_zero, Nat.sub_zero, List.cons_append, List.nil_append]); refine EqE.mk _ rfl ?_) | refine EqE.mk _ rfl ?_) | ((with_reducible refine EqE.idP ?_); first | ((conv => arg 1; simp only [ak, List.toList_toArray, bz, b3]); refine EqE.mk _ rfl ?_) | refine EqE.mk _ rfl ?_) | ((with_reducible refine EqE.idN ?_); first | ((conv => arg 1; simp only [ak, List.toList_toArray, aa, bb, Int.toNat_natCast, Int.toNat_zero, Int.toNat_one, List.length_cons, List.length_nil, Nat.zero_add]); refine EqE.mk _ rfl ?_)) | ((with_reducible refine EqE.idW ?_); first | with_reducible refine EqE.mk _ (a7 _ (by omega)) ?_ | with_reducible refine EqE.mk _ (ar _ (by omega)) ?_ | refine EqE.mk _ (ah (by omega) (by omega)) ?_ | refine EqE.mk _ rfl ?_) | ((with_reducible refine EqE.idM ?_); refine EqE.mk _ rfl ?_) | ((with_reducible refine EqE.idI ?_); first | refine EqE.mk _ (max_eq _ _) ?_ | refine EqE.mk _ (min_eq _ _) ?_) | ((with_reducible refine EqE.idS ?_); first | (refine EqE.fP ?_; (conv => whnf); fail_if_success (show ag _ _)) | refine EqE.mk _ rfl ?_) | ((with_reducible refine EqE.idL ?_); first | refine EqE.mk _ (ax _ _ _ _ (by omega) (by omega) rfl) ?_ | refine EqE.mk _ rfl ?_) | refine EqE.mk _ rfl ?_ | refine Cd.ro ?_ | refine Cd.dc ?_ | refine Cd.ob ?_ | refine Cd.ol ?_ | refine Cd.mk ⟨rfl, rfl⟩ ?_ | refine Cd.os ?_ | refine Cd.mk ?_ ?_ | refine DsE.mk [_] rfl ?_ | refine DsE.mk [_, _, _] rfl ?_)
 refine ti ay 0 [] [0, 1, 4, 7, 8, 9] [4] (fun m xs h => ∃ i : Nat, m = r.length - i ∧ 1 ≤ i ∧ i < d ∧ i < most ∧ x ≠ 48 ∧ xs = [.d (.str (bst (45 :: r))), .d (.int .i64 most), .ptr 4 0, .d (.int .i64 (i + 1 : Nat)), .d (.bool true), .d (.int .i64 (1 : Nat))] ∧ h = [(4, false, [.d (.bool false), .d .nil])]) rfl ?_ ?_
 ·by_cases c1 : r.length = 0
  ·rw [if_pos c1] at hp
   repeat' ((conv => whnf); first | refine aw.data ?_ | with_reducible refine Br.bt fun _ => ?_ | with_reducible refine Br.bf fun _ => ?_ | refine cE s1 ?_ | refine rgE ?_ | refine Cd.mk rfl ?_ | refine Br.t ?_ | refine Br.f ?_ | with_reducible refine Br.eqd ?_ | with_reducible refine Br.eqb ?_ | with_reducible refine Br.dec (fun _ => ?_) (fun _ => ?_) | with_reducible refine Br.br (fun _ => ?_) (fun _ => ?_) | refine Br.mk (fun _ => ?_) (fun _ => ?_) | refine ao.mk _ rfl ?_ | refine And.intro (fun _ => ?_) ?_ | (refine TkE.fL ?_; (conv => whnf); fail_if_success (show ag _ _)) | refine TkE.mk _ rfl rfl ?_ | refine Res.mk ?_ | refine a8.mk (by repeat first | exact True.intro | refine And.intro (by kernel_rfl) ?_) ?_ | refine DsE.mk [] rfl ?_ | refine ai.cu _ _ ?_ | ((with_reducible refine EqE.idT ?_); first | ((conv => arg 1; simp only [ak, List.toList_toArray, an, ae, aa, Int.toNat_natCast, Int.toNat_zero, Int.toNat_one, b4, b5, List.drop_zero, Nat.sub_zero, List.cons_append, List.nil_append]); refine EqE.mk _ rfl ?_) | refine EqE.mk _ rfl ?_) | ((with_reducible refine EqE.idP ?_); first | ((conv => arg 1; simp only [ak, List.toList_toArray, bz, b3]); refine EqE.mk _ rfl ?_) | refine EqE.mk _ rfl ?_) | ((with_reducible refine EqE.idN ?_); first | ((conv => arg 1; simp only [ak, List.toList_toArray, aa, bb, Int.toNat_natCast, Int.toNat_zero, Int.toNat_one, List.length_cons, List.length_nil, Nat.zero_add]); refine EqE.mk _ rfl ?_)) | ((with_reducible refine EqE.idW ?_); first | refine EqE.mk ((1 : Nat) : Int) (by decide) ?_ | with_reducible refine EqE.mk _ (a7 _ (by omega)) ?_ | with_reducible refine EqE.mk _ (ar _ (by omega)) ?_ | refine EqE.mk _ (ah (by omega) (by omega)) ?_ | refine EqE.mk _ rfl ?_) | ((with_reducible refine EqE.idM ?_); refine EqE.mk _ rfl ?_) | ((with_reducible refine EqE.idI ?_); first | refine EqE.mk _ (max_eq _ _) ?_ | refine EqE.mk _ (min_eq _ _) ?_) | ((with_reducible refine EqE.idS ?_); first | (refine EqE.fP ?_; (conv => whnf); fail_if_success (show ag _ _)) | refine EqE.mk _ rfl ?_) | ((with_reducible refine EqE.idL ?_); first | refine EqE.mk _ (ax _ _ _ _ (by omega) (by omega) rfl) ?_ | refine EqE.mk _ rfl ?_) | refine EqE.mk _ rfl ?_ | refine Cd.ro ?_ | refine Cd.dc ?_ | refine Cd.ob ?_ | refine Cd.ol ?_ | refine Cd.mk ⟨rfl, rfl⟩ ?_ | refine Cd.os ?_ | refine Cd.mk ?_ ?_ | refine DsE.mk [_] rfl ?_ | refine DsE.mk [_, _, _] rfl ?_)
   exact (hp ▸ kn).trans (oo rfl rfl rfl)
  rw [if_neg c1] at hp
  by_cases c2 : d = 0
  ·subst c2
   rw [if_pos (.inl rfl)] at hp
   have s2 := sd 0 (by omega)
   rw [hend] at s2
   repeat' ((conv => whnf); first | refine aw.data ?_ | with_reducible refine Br.bt fun _ => ?_ | with_reducible refine Br.bf fun _ => ?_ | refine cE s1 ?_ | refine cE s2 ?_ | refine rgE ?_ | refine Cd.mk rfl ?_ | refine Br.t ?_ | refine Br.f ?_ | with_reducible refine Br.eqd ?_ | with_reducible refine Br.eqb ?_ | with_reducible refine Br.dec (fun _ => ?_) (fun _ => ?_) | with_reducible refine Br.br (fun _ => ?_) (fun _ => ?_) | refine Br.mk (fun _ => ?_) (fun _ => ?_) | refine ao.mk _ rfl ?_ | refine And.intro (fun _ => ?_) ?_ | (refine TkE.fL ?_; (conv => whnf); fail_if_success (show ag _ _)) | refine TkE.mk _ rfl rfl ?_ | refine Res.mk ?_ | refine a8.mk (by repeat first | exact True.intro | refine And.intro (by kernel_rfl) ?_) ?_ | refine DsE.mk [] rfl ?_ | refine ai.cu _ _ ?_ | ((with_reducible refine EqE.idT ?_); first | ((conv => arg 1; simp only [ak, List.toList_toArray, an, ae, aa, Int.toNat_natCast, Int.toNat_zero, Int.toNat_one, b4, b5, List.drop_zero, Nat.sub_zero, List.cons_append, List.nil_append]); refine EqE.mk _ rfl ?_) | refine EqE.mk _ rfl ?_) | ((with_reducible refine EqE.idP ?_); first | ((conv => arg 1; simp only [ak, List.toList_toArray, bz, b3]); refine EqE.mk _ rfl ?_) | refine EqE.mk _ rfl ?_) | ((with_reducible refine EqE.idN ?_); first | ((conv => arg 1; simp only [ak, List.toList_toArray, aa, bb, Int.toNat_natCast, Int.toNat_zero, Int.toNat_one, List.length_cons, List.length_nil, Nat.zero_add]); refine EqE.mk _ rfl ?_)) | ((with_reducible refine EqE.idW ?_); first | refine EqE.mk ((1 : Nat) : Int) (by decide) ?_ | with_reducible refine EqE.mk _ (a7 _ (by omega)) ?_ | with_reducible refine EqE.mk _ (ar _ (by omega)) ?_ | refine EqE.mk _ (ah (by omega) (by omega)) ?_ | refine EqE.mk _ rfl ?_) | ((with_reducible refine EqE.idM ?_); refine EqE.mk _ rfl ?_) | ((with_reducible refine EqE.idI ?_); first | refine EqE.mk _ (max_eq _ _) ?_ | refine EqE.mk _ (min_eq _ _) ?_) | ((with_reducible refine EqE.idS ?_); first | (refine EqE.fP ?_; (conv => whnf); fail_if_success (show ag _ _)) | refine EqE.mk _ rfl ?_) | ((with_reducible refine EqE.idL ?_); first | refine EqE.mk _ (ax _ _ _ _ (by omega) (by omega) rfl) ?_ | refine EqE.mk _ rfl ?_) | refine EqE.mk _ rfl ?_ | refine Cd.ro ?_ | refine Cd.dc ?_ | refine Cd.ob ?_ | refine Cd.ol ?_ | refine Cd.mk ⟨rfl, rfl⟩ ?_ | refine Cd.os ?_ | refine Cd.mk ?_ ?_ | refine DsE.mk [_] rfl ?_ | refine DsE.mk [_, _, _] rfl ?_)
   exact (hp ▸ kn).trans (oo rfl rfl rfl)
  have s2 := sd 0 (by omega)
  rw [hat 0 (by omega)] at s2
  by_cases c3 : x = 48
  ·subst c3
   rw [if_pos (.inr hx)] at hp
   repeat' ((conv => whnf); first | refine aw.data ?_ | with_reducible refine Br.bt fun _ => ?_ | with_reducible refine Br.bf fun _ => ?_ | refine cE s1 ?_ | refine cE s2 ?_ | refine rgE ?_ | refine Cd.mk rfl ?_ | refine Br.t ?_ | refine Br.f ?_ | with_reducible refine Br.eqd ?_ | with_reducible refine Br.eqb ?_ | with_reducible refine Br.dec (fun _ => ?_) (fun _ => ?_) | with_reducible refine Br.br (fun _ => ?_) (fun _ => ?_) | refine Br.mk (fun _ => ?_) (fun _ => ?_) | refine ao.mk _ rfl ?_ | refine And.intro (fun _ => ?_) ?_ | (refine TkE.fL ?_; (conv => whnf); fail_if_success (show ag _ _)) | refine TkE.mk _ rfl rfl ?_ | refine Res.mk ?_ | refine a8.mk (by repeat first | exact True.intro | refine And.intro (by kernel_rfl) ?_) ?_ | refine DsE.mk [] rfl ?_ | refine ai.cu _ _ ?_ | ((with_reducible refine EqE.idT ?_); first | ((conv => arg 1; simp only [ak, List.toList_toArray, an, ae, aa, Int.toNat_natCast, Int.toNat_zero, Int.toNat_one, b4, b5, List.drop_zero, Nat.sub_zero, List.cons_append, List.nil_append]); refine EqE.mk _ rfl ?_) | refine EqE.mk _ rfl ?_) | ((with_reducible refine EqE.idP ?_); first | ((conv => arg 1; simp only [ak, List.toList_toArray, bz, b3]); refine EqE.mk _ rfl ?_) | refine EqE.mk _ rfl ?_) | ((with_reducible refine EqE.idN ?_); first | refine EqE.mk _ (ixx (i := 1) hx') ?_ | ((conv => arg 1; simp only [ak, List.toList_toArray, aa, bb, Int.toNat_natCast, Int.toNat_zero, Int.toNat_one, List.length_cons, List.length_nil, Nat.zero_add]); refine EqE.mk _ rfl ?_)) | ((with_reducible refine EqE.idW ?_); first | refine EqE.mk ((1 : Nat) : Int) (by decide) ?_ | with_reducible refine EqE.mk _ (a7 _ (by omega)) ?_ | with_reducible refine EqE.mk _ (ar _ (by omega)) ?_ | refine EqE.mk _ (ah (by omega) (by omega)) ?_ | refine EqE.mk _ rfl ?_) | ((with_reducible refine EqE.idM ?_); refine EqE.mk _ rfl ?_) | ((with_reducible refine EqE.idI ?_); first | refine EqE.mk _ (max_eq _ _) ?_ | refine EqE.mk _ (min_eq _ _) ?_) | ((with_reducible refine EqE.idS ?_); first | (refine EqE.fP ?_; (conv => whnf); fail_if_success (show ag _ _)) | refine EqE.mk _ rfl ?_) | ((with_reducible refine EqE.idL ?_); first | refine EqE.mk _ (ax _ _ _ _ (by omega) (by omega) rfl) ?_ | refine EqE.mk _ rfl ?_) | refine EqE.mk _ rfl ?_ | refine Cd.ro ?_ | refine Cd.dc ?_ | refine Cd.ob ?_ | refine Cd.ol ?_ | refine Cd.mk ⟨rfl, rfl⟩ ?_ | refine Cd.os ?_ | refine Cd.mk ?_ ?_ | refine DsE.mk [_] rfl ?_ | refine DsE.mk [_, _, _] rfl ?_)
   exact (hp ▸ kn).trans (oo rfl rfl rfl)
  rw [if_neg (fun q => by rcases q with q | q; exact c2 q; exact c3 (hx ▸ q))] at hp
  have hx48 : ((x.toNat : Nat) : Int) ≠ 48 := fun h => c3 (n48.1 h)
  have s5 := sd 1 (by omega)
  by_cases c4 : d = 1
  ·subst c4
   rw [hend] at s5
   rw [if_neg (by omega)] at hp
   have hs1 := hsub 1
   repeat' ((conv => whnf); first | refine aw.data ?_ | with_reducible refine Br.bt fun _ => ?_ | with_reducible refine Br.bf fun _ => ?_ | refine cE s1 ?_ | refine cE s2 ?_ | refine cE s5 ?_ | refine cE s3 ?_ | refine cE s4 ?_ | refine rgE ?_ | refine Cd.mk rfl ?_ | refine Br.t ?_ | refine Br.f ?_ | with_reducible refine Br.eqd ?_ | with_reducible refine Br.eqb ?_ | with_reducible refine Br.dec (fun _ => ?_) (fun _ => ?_) | with_reducible refine Br.br (fun _ => ?_) (fun _ => ?_) | refine Br.mk (fun _ => ?_) (fun _ => ?_) | refine ao.mk _ rfl ?_ | refine And.intro (fun _ => ?_) ?_ | (refine TkE.fL ?_; (conv => whnf); fail_if_success (show ag _ _)) | refine TkE.mk _ rfl rfl ?_ | refine Res.mk ?_ | refine a8.mk (by repeat first | exact True.intro | refine And.intro (by kernel_rfl) ?_) ?_ | refine DsE.mk [] rfl ?_ | refine ai.cu _ _ ?_ | ((with_reducible refine EqE.idT ?_); first | refine EqE.mk _ hs1 ?_ | ((conv => arg 1; simp only [ak, List.toList_toArray, an, ae, aa, Int.toNat_natCast, Int.toNat_zero, Int.toNat_one, b4, b5, List.drop_zero, Nat.sub_zero, List.cons_append, List.nil_append]); refine EqE.mk _ rfl ?_) | refine EqE.mk _ rfl ?_) | ((with_reducible refine EqE.idP ?_); first | ((conv => arg 1; simp only [ak, List.toList_toArray, bz, b3]); refine EqE.mk _ rfl ?_) | refine EqE.mk _ rfl ?_) | ((with_reducible refine EqE.idN ?_); first | refine EqE.mk _ (ixx (i := 1) hx') ?_ | ((conv => arg 1; simp only [ak, List.toList_toArray, aa, bb, Int.toNat_natCast, Int.toNat_zero, Int.toNat_one, List.length_cons, List.length_nil, Nat.zero_add]); refine EqE.mk _ rfl ?_)) | ((with_reducible refine EqE.idW ?_); first | refine EqE.mk ((1 : Nat) : Int) (by decide) ?_ | refine EqE.mk ((1 + 1 : Nat) : Int) (by decide) ?_ | with_reducible refine EqE.mk _ (a7 _ (by omega)) ?_ | with_reducible refine EqE.mk _ (ar _ (by omega)) ?_ | refine EqE.mk _ (ah (by omega) (by omega)) ?_ | refine EqE.mk _ rfl ?_) | ((with_reducible refine EqE.idM ?_); refine EqE.mk _ rfl ?_) | ((with_reducible refine EqE.idI ?_); first | refine EqE.mk _ (max_eq _ _) ?_ | refine EqE.mk _ (min_eq _ _) ?_) | ((with_reducible refine EqE.idS ?_); first | (refine EqE.fP ?_; (conv => whnf); fail_if_success (show ag _ _)) | refine EqE.mk _ rfl ?_) | ((with_reducible refine EqE.idL ?_); first | refine EqE.mk _ (ax _ _ _ _ (by omega) (by omega) rfl) ?_ | refine EqE.mk _ rfl ?_) | refine EqE.mk _ rfl ?_ | refine Cd.ro ?_ | refine Cd.dc ?_ | refine Cd.ob ?_ | refine Cd.ol ?_ | refine Cd.mk ⟨rfl, rfl⟩ ?_ | refine Cd.os ?_ | refine Cd.mk ?_ ?_ | refine DsE.mk [_] rfl ?_ | refine DsE.mk [_, _, _] rfl ?_)
   rw [hp]
   exact oo rfl rfl rfl
  rw [hat 1 (by omega)] at s5
  by_cases c5 : most = 1
  ·subst c5
   rw [if_pos (by omega)] at hp
   repeat' ((conv => whnf); first | refine aw.data ?_ | with_reducible refine Br.bt fun _ => ?_ | with_reducible refine Br.bf fun _ => ?_ | refine cE s1 ?_ | refine cE s2 ?_ | refine cE s5 ?_ | refine rgE ?_ | refine Cd.mk rfl ?_ | refine Br.t ?_ | refine Br.f ?_ | with_reducible refine Br.eqd ?_ | with_reducible refine Br.eqb ?_ | with_reducible refine Br.dec (fun _ => ?_) (fun _ => ?_) | with_reducible refine Br.br (fun _ => ?_) (fun _ => ?_) | refine Br.mk (fun _ => ?_) (fun _ => ?_) | refine ao.mk _ rfl ?_ | refine And.intro (fun _ => ?_) ?_ | (refine TkE.fL ?_; (conv => whnf); fail_if_success (show ag _ _)) | refine TkE.mk _ rfl rfl ?_ | refine Res.mk ?_ | refine a8.mk (by repeat first | exact True.intro | refine And.intro (by kernel_rfl) ?_) ?_ | refine DsE.mk [] rfl ?_ | refine ai.cu _ _ ?_ | ((with_reducible refine EqE.idT ?_); first | ((conv => arg 1; simp only [ak, List.toList_toArray, an, ae, aa, Int.toNat_natCast, Int.toNat_zero, Int.toNat_one, b4, b5, List.drop_zero, Nat.sub_zero, List.cons_append, List.nil_append]); refine EqE.mk _ rfl ?_) | refine EqE.mk _ rfl ?_) | ((with_reducible refine EqE.idP ?_); first | ((conv => arg 1; simp only [ak, List.toList_toArray, bz, b3]); refine EqE.mk _ rfl ?_) | refine EqE.mk _ rfl ?_) | ((with_reducible refine EqE.idN ?_); first | refine EqE.mk _ (ixx (i := 1) hx') ?_ | ((conv => arg 1; simp only [ak, List.toList_toArray, aa, bb, Int.toNat_natCast, Int.toNat_zero, Int.toNat_one, List.length_cons, List.length_nil, Nat.zero_add]); refine EqE.mk _ rfl ?_)) | ((with_reducible refine EqE.idW ?_); first | refine EqE.mk ((1 : Nat) : Int) (by decide) ?_ | refine EqE.mk ((1 + 1 : Nat) : Int) (by decide) ?_ | with_reducible refine EqE.mk _ (a7 _ (by omega)) ?_ | with_reducible refine EqE.mk _ (ar _ (by omega)) ?_ | refine EqE.mk _ (ah (by omega) (by omega)) ?_ | refine EqE.mk _ rfl ?_) | ((with_reducible refine EqE.idM ?_); refine EqE.mk _ rfl ?_) | ((with_reducible refine EqE.idI ?_); first | refine EqE.mk _ (max_eq _ _) ?_ | refine EqE.mk _ (min_eq _ _) ?_) | ((with_reducible refine EqE.idS ?_); first | (refine EqE.fP ?_; (conv => whnf); fail_if_success (show ag _ _)) | refine EqE.mk _ rfl ?_) | ((with_reducible refine EqE.idL ?_); first | refine EqE.mk _ (ax _ _ _ _ (by omega) (by omega) rfl) ?_ | refine EqE.mk _ rfl ?_) | refine EqE.mk _ rfl ?_ | refine Cd.ro ?_ | refine Cd.dc ?_ | refine Cd.ob ?_ | refine Cd.ol ?_ | refine Cd.mk ⟨rfl, rfl⟩ ?_ | refine Cd.os ?_ | refine Cd.mk ?_ ?_ | refine DsE.mk [_] rfl ?_ | refine DsE.mk [_, _, _] rfl ?_)
   exact (hp ▸ kn).trans (oo rfl rfl rfl)
  ·repeat' ((conv => whnf); first | refine aw.data ?_ | with_reducible refine Br.bt fun _ => ?_ | with_reducible refine Br.bf fun _ => ?_ | refine cE s1 ?_ | refine cE s2 ?_ | refine cE s5 ?_ | refine rgE ?_ | refine Cd.mk rfl ?_ | refine Br.t ?_ | refine Br.f ?_ | with_reducible refine Br.eqd ?_ | with_reducible refine Br.eqb ?_ | with_reducible refine Br.dec (fun _ => ?_) (fun _ => ?_) | with_reducible refine Br.br (fun _ => ?_) (fun _ => ?_) | refine Br.mk (fun _ => ?_) (fun _ => ?_) | refine ao.mk _ rfl ?_ | refine And.intro (fun _ => ?_) ?_ | (refine TkE.fL ?_; (conv => whnf); fail_if_success (show ag _ _)) | refine TkE.mk _ rfl rfl ?_ | refine Res.mk ?_ | refine a8.mk (by repeat first | exact True.intro | refine And.intro (by kernel_rfl) ?_) ?_ | refine DsE.mk [] rfl ?_ | refine ai.cu _ _ ?_ | ((with_reducible refine EqE.idT ?_); first | ((conv => arg 1; simp only [ak, List.toList_toArray, an, ae, aa, Int.toNat_natCast, Int.toNat_zero, Int.toNat_one, b4, b5, List.drop_zero, Nat.sub_zero, List.cons_append, List.nil_append]); refine EqE.mk _ rfl ?_) | refine EqE.mk _ rfl ?_) | ((with_reducible refine EqE.idP ?_); first | ((conv => arg 1; simp only [ak, List.toList_toArray, bz, b3]); refine EqE.mk _ rfl ?_) | refine EqE.mk _ rfl ?_) | ((with_reducible refine EqE.idN ?_); first | refine EqE.mk _ (ixx (i := 1) hx') ?_ | ((conv => arg 1; simp only [ak, List.toList_toArray, aa, bb, Int.toNat_natCast, Int.toNat_zero, Int.toNat_one, List.length_cons, List.length_nil, Nat.zero_add]); refine EqE.mk _ rfl ?_)) | ((with_reducible refine EqE.idW ?_); first | refine EqE.mk ((1 : Nat) : Int) (by decide) ?_ | refine EqE.mk ((1 + 1 : Nat) : Int) (by decide) ?_ | with_reducible refine EqE.mk _ (a7 _ (by omega)) ?_ | with_reducible refine EqE.mk _ (ar _ (by omega)) ?_ | refine EqE.mk _ (ah (by omega) (by omega)) ?_ | refine EqE.mk _ rfl ?_) | ((with_reducible refine EqE.idM ?_); refine EqE.mk _ rfl ?_) | ((with_reducible refine EqE.idI ?_); first | refine EqE.mk _ (max_eq _ _) ?_ | refine EqE.mk _ (min_eq _ _) ?_) | ((with_reducible refine EqE.idS ?_); first | (refine EqE.fP ?_; (conv => whnf); fail_if_success (show ag _ _)) | refine EqE.mk _ rfl ?_) | ((with_reducible refine EqE.idL ?_); first | refine EqE.mk _ (ax _ _ _ _ (by omega) (by omega) rfl) ?_ | refine EqE.mk _ rfl ?_) | refine EqE.mk _ rfl ?_ | refine Cd.ro ?_ | refine Cd.dc ?_ | refine Cd.ob ?_ | refine Cd.ol ?_ | refine Cd.mk ⟨rfl, rfl⟩ ?_ | refine Cd.os ?_ | refine Cd.mk ?_ ?_ | refine DsE.mk [_] rfl ?_ | refine DsE.mk [_, _, _] rfl ?_)
   (conv => whnf)
   exact ⟨rfl, uo.mk _ _ _ ⟨.inl rfl, rfl, rfl, by first | rfl | (repeat first | exact all_nil _ | refine cz _ _ _ _ _ ?_)⟩ ⟨1, rfl, Nat.le_refl _, by omega, by omega, c3, rfl, rfl⟩⟩
 ·rintro m xs h ⟨i, rfl, h1i, hid, him, c3, rfl, rfl⟩
  have hx48 : ((x.toNat : Nat) : Int) ≠ 48 := fun h => c3 (n48.1 h)
  have s5 := sd (i + 1) (by omega)
  rw [if_neg (by omega), if_neg (fun q => by rcases q with q | q; omega; exact c3 (hx ▸ q))] at hp
  by_cases c4 : i + 1 = d
  ·rw [c4, hend] at s5
   rw [if_neg (by omega)] at hp
   have hs1 := hsub d
   repeat' ((conv => whnf); first | refine aw.data ?_ | with_reducible refine Br.bt fun _ => ?_ | with_reducible refine Br.bf fun _ => ?_ | refine cE s5 ?_ | refine cE s3 ?_ | refine cE s4 ?_ | refine rgE ?_ | refine Cd.mk rfl ?_ | refine Br.t ?_ | refine Br.f ?_ | with_reducible refine Br.eqd ?_ | with_reducible refine Br.eqb ?_ | with_reducible refine Br.dec (fun _ => ?_) (fun _ => ?_) | with_reducible refine Br.br (fun _ => ?_) (fun _ => ?_) | refine Br.mk (fun _ => ?_) (fun _ => ?_) | refine ao.mk _ rfl ?_ | refine And.intro (fun _ => ?_) ?_ | (refine TkE.fL ?_; (conv => whnf); fail_if_success (show ag _ _)) | refine TkE.mk _ rfl rfl ?_ | refine Res.mk ?_ | refine a8.mk (by repeat first | exact True.intro | refine And.intro (by kernel_rfl) ?_) ?_ | refine DsE.mk [] rfl ?_ | refine ai.cu _ _ ?_ | ((with_reducible refine EqE.idT ?_); first | refine EqE.mk _ hs1 ?_ | ((conv => arg 1; simp only [ak, List.toList_toArray, an, ae, aa, Int.toNat_natCast, Int.toNat_zero, Int.toNat_one, b4, b5, List.drop_zero, Nat.sub_zero, List.cons_append, List.nil_append]); refine EqE.mk _ rfl ?_) | refine EqE.mk _ rfl ?_) | ((with_reducible refine EqE.idP ?_); first | ((conv => arg 1; simp only [ak, List.toList_toArray, bz, b3]); refine EqE.mk _ rfl ?_) | refine EqE.mk _ rfl ?_) | ((with_reducible refine EqE.idN ?_); first | refine EqE.mk _ (ixx (i := 1) hx') ?_ | ((conv => arg 1; simp only [ak, List.toList_toArray, aa, bb, Int.toNat_natCast, Int.toNat_zero, Int.toNat_one, List.length_cons, List.length_nil, Nat.zero_add]); refine EqE.mk _ rfl ?_)) | ((with_reducible refine EqE.idW ?_); first | refine EqE.mk ((d + 1 : Nat) : Int) (by rw [ah (by omega) (by omega)]; omega) ?_ | with_reducible refine EqE.mk _ (a7 _ (by omega)) ?_ | with_reducible refine EqE.mk _ (ar _ (by omega)) ?_ | refine EqE.mk _ (ah (by omega) (by omega)) ?_ | refine EqE.mk _ rfl ?_) | ((with_reducible refine EqE.idM ?_); refine EqE.mk _ rfl ?_) | ((with_reducible refine EqE.idI ?_); first | refine EqE.mk _ (max_eq _ _) ?_ | refine EqE.mk _ (min_eq _ _) ?_) | ((with_reducible refine EqE.idS ?_); first | (refine EqE.fP ?_; (conv => whnf); fail_if_success (show ag _ _)) | refine EqE.mk _ rfl ?_) | ((with_reducible refine EqE.idL ?_); first | refine EqE.mk _ (ax _ _ _ _ (by omega) (by omega) rfl) ?_ | refine EqE.mk _ rfl ?_) | refine EqE.mk _ rfl ?_ | refine Cd.ro ?_ | refine Cd.dc ?_ | refine Cd.ob ?_ | refine Cd.ol ?_ | refine Cd.mk ⟨rfl, rfl⟩ ?_ | refine Cd.os ?_ | refine Cd.mk ?_ ?_ | refine DsE.mk [_] rfl ?_ | refine DsE.mk [_, _, _] rfl ?_)
   rw [hp]
   exact oo rfl (by show ((1 + d : Nat) : Int) = ((d + 1 : Nat) : Int); omega) rfl
  ·rw [hat (i + 1) (by omega)] at s5
   by_cases c5 : most = i + 1
   ·subst c5
    rw [if_pos (by omega)] at hp
    repeat' ((conv => whnf); first | refine aw.data ?_ | with_reducible refine Br.bt fun _ => ?_ | with_reducible refine Br.bf fun _ => ?_ | refine cE s5 ?_ | refine rgE ?_ | refine Cd.mk rfl ?_ | refine Br.t ?_ | refine Br.f ?_ | with_reducible refine Br.eqd ?_ | with_reducible refine Br.eqb ?_ | with_reducible refine Br.dec (fun _ => ?_) (fun _ => ?_) | with_reducible refine Br.br (fun _ => ?_) (fun _ => ?_) | refine Br.mk (fun _ => ?_) (fun _ => ?_) | refine ao.mk _ rfl ?_ | refine And.intro (fun _ => ?_) ?_ | (refine TkE.fL ?_; (conv => whnf); fail_if_success (show ag _ _)) | refine TkE.mk _ rfl rfl ?_ | refine Res.mk ?_ | refine a8.mk (by repeat first | exact True.intro | refine And.intro (by kernel_rfl) ?_) ?_ | refine DsE.mk [] rfl ?_ | refine ai.cu _ _ ?_ | ((with_reducible refine EqE.idT ?_); first | ((conv => arg 1; simp only [ak, List.toList_toArray, an, ae, aa, Int.toNat_natCast, Int.toNat_zero, Int.toNat_one, b4, b5, List.drop_zero, Nat.sub_zero, List.cons_append, List.nil_append]); refine EqE.mk _ rfl ?_) | refine EqE.mk _ rfl ?_) | ((with_reducible refine EqE.idP ?_); first | ((conv => arg 1; simp only [ak, List.toList_toArray, bz, b3]); refine EqE.mk _ rfl ?_) | refine EqE.mk _ rfl ?_) | ((with_reducible refine EqE.idN ?_); first | refine EqE.mk _ (ixx (i := 1) hx') ?_ | ((conv => arg 1; simp only [ak, List.toList_toArray, aa, bb, Int.toNat_natCast, Int.toNat_zero, Int.toNat_one, List.length_cons, List.length_nil, Nat.zero_add]); refine EqE.mk _ rfl ?_)) | ((with_reducible refine EqE.idW ?_); first | refine EqE.mk ((i + 1 + 1 : Nat) : Int) (by rw [ah (by omega) (by omega)]; omega) ?_ | with_reducible refine EqE.mk _ (a7 _ (by omega)) ?_ | with_reducible refine EqE.mk _ (ar _ (by omega)) ?_ | refine EqE.mk _ (ah (by omega) (by omega)) ?_ | refine EqE.mk _ rfl ?_) | ((with_reducible refine EqE.idM ?_); refine EqE.mk _ rfl ?_) | ((with_reducible refine EqE.idI ?_); first | refine EqE.mk _ (max_eq _ _) ?_ | refine EqE.mk _ (min_eq _ _) ?_) | ((with_reducible refine EqE.idS ?_); first | (refine EqE.fP ?_; (conv => whnf); fail_if_success (show ag _ _)) | refine EqE.mk _ rfl ?_) | ((with_reducible refine EqE.idL ?_); first | refine EqE.mk _ (ax _ _ _ _ (by omega) (by omega) rfl) ?_ | refine EqE.mk _ rfl ?_) | refine EqE.mk _ rfl ?_ | refine Cd.ro ?_ | refine Cd.dc ?_ | refine Cd.ob ?_ | refine Cd.ol ?_ | refine Cd.mk ⟨rfl, rfl⟩ ?_ | refine Cd.os ?_ | refine Cd.mk ?_ ?_ | refine DsE.mk [_] rfl ?_ | refine DsE.mk [_, _, _] rfl ?_)
    exact (hp ▸ kn).trans (oo rfl (by omega) rfl)
   ·repeat' ((conv => whnf); first | refine aw.data ?_ | with_reducible refine Br.bt fun _ => ?_ | with_reducible refine Br.bf fun _ => ?_ | refine cE s5 ?_ | refine rgE ?_ | refine Cd.mk rfl ?_ | refine Br.t ?_ | refine Br.f ?_ | with_reducible refine Br.eqd ?_ | with_reducible refine Br.eqb ?_ | with_reducible refine Br.dec (fun _ => ?_) (fun _ => ?_) | with_reducible refine Br.br (fun _ => ?_) (fun _ => ?_) | refine Br.mk (fun _ => ?_) (fun _ => ?_) | refine ao.mk _ rfl ?_ | refine And.intro (fun _ => ?_) ?_ | (refine TkE.fL ?_; (conv => whnf); fail_if_success (show ag _ _)) | refine TkE.mk _ rfl rfl ?_ | refine Res.mk ?_ | refine a8.mk (by repeat first | exact True.intro | refine And.intro (by kernel_rfl) ?_) ?_ | refine DsE.mk [] rfl ?_ | refine ai.cu _ _ ?_ | ((with_reducible refine EqE.idT ?_); first | ((conv => arg 1; simp only [ak, List.toList_toArray, an, ae, aa, Int.toNat_natCast, Int.toNat_zero, Int.toNat_one, b4, b5, List.drop_zero, Nat.sub_zero, List.cons_append, List.nil_append]); refine EqE.mk _ rfl ?_) | refine EqE.mk _ rfl ?_) | ((with_reducible refine EqE.idP ?_); first | ((conv => arg 1; simp only [ak, List.toList_toArray, bz, b3]); refine EqE.mk _ rfl ?_) | refine EqE.mk _ rfl ?_) | ((with_reducible refine EqE.idN ?_); first | refine EqE.mk _ (ixx (i := 1) hx') ?_ | ((conv => arg 1; simp only [ak, List.toList_toArray, aa, bb, Int.toNat_natCast, Int.toNat_zero, Int.toNat_one, List.length_cons, List.length_nil, Nat.zero_add]); refine EqE.mk _ rfl ?_)) | ((with_reducible refine EqE.idW ?_); first | refine EqE.mk ((i + 1 + 1 : Nat) : Int) (by rw [ah (by omega) (by omega)]; omega) ?_ | with_reducible refine EqE.mk _ (a7 _ (by omega)) ?_ | with_reducible refine EqE.mk _ (ar _ (by omega)) ?_ | refine EqE.mk _ (ah (by omega) (by omega)) ?_ | refine EqE.mk _ rfl ?_) | ((with_reducible refine EqE.idM ?_); refine EqE.mk _ rfl ?_) | ((with_reducible refine EqE.idI ?_); first | refine EqE.mk _ (max_eq _ _) ?_ | refine EqE.mk _ (min_eq _ _) ?_) | ((with_reducible refine EqE.idS ?_); first | (refine EqE.fP ?_; (conv => whnf); fail_if_success (show ag _ _)) | refine EqE.mk _ rfl ?_) | ((with_reducible refine EqE.idL ?_); first | refine EqE.mk _ (ax _ _ _ _ (by omega) (by omega) rfl) ?_ | refine EqE.mk _ rfl ?_) | refine EqE.mk _ rfl ?_ | refine Cd.ro ?_ | refine Cd.dc ?_ | refine Cd.ob ?_ | refine Cd.ol ?_ | refine Cd.mk ⟨rfl, rfl⟩ ?_ | refine Cd.os ?_ | refine Cd.mk ?_ ?_ | refine DsE.mk [_] rfl ?_ | refine DsE.mk [_, _, _] rfl ?_)
    (conv => whnf)
    exact ⟨rfl, ai.mk _ _ _ ⟨.inl rfl, rfl, rfl, by first | rfl | (repeat first | exact all_nil _ | refine cz _ _ _ _ _ ?_)⟩ (by show r.length - (i + 1) < r.length - i; omega) ⟨i + 1, rfl, by omega, by omega, by omega, c3, rfl, rfl⟩⟩
theorem ah9 (l : List UInt8) (hf : l.head? ≠ some 45) (most : Nat) (hl : l.length < 2 ^ 19) (h1 : 1 ≤ most) (h2 : most < 2 ^ 40) : Sim Tryd.prog G0 false 25 [.str (bst l), .int .i64 most] (pD (rd l most)) := by
 have s1 := wh l (by omega)
 rw [show decide (l.head? = some 45) = false by simpa using hf] at s1
 have hp := ah7 hf most
 obtain ⟨p, hpp⟩ : ∃ p, rd l most = p := ⟨_, rfl⟩
 rw [hpp] at hp ⊢
 have hn := aeq l
 have sd : ∀ i, i < 2 ^ 20 → Sim Tryd.prog G0 true 42 [.str (bst l), .int .i64 (i : Nat)] (.bool (nt l i)) := fun i hi => s7 l i (by omega) (by omega)
 obtain ⟨x, hx⟩ : ∃ x, nth 0 l 0 = x := ⟨_, rfl⟩
 have hx' : nth 0 l 0 = x := hx
 have hsub : ∀ i : Nat, (bst l).extract ((0 : Int)).toNat ((i : Nat) : Int).toNat = bst (l.take i) := fun i => by
  rw [ae, Int.toNat_natCast]; rfl
 have s3 := w7 (l.take (nd l)) (by rw [List.length_take]; omega) (uh l)
 have hvl : (ofN (dv 10 (dgs (l.take (nd l))))).length ≤ 4194304 := by
  have := adi (vd (uh l))
  rw [kx, List.length_take] at this; omega
 have s4 := gf (.mk false (ofN (dv 10 (dgs (l.take (nd l))))) hvl)
 obtain ⟨d, hd⟩ : ∃ d, nd l = d := ⟨_, rfl⟩
 have hend : nt l d = false := hd ▸ ade
 have hat : ∀ i, i < d → nt l i = true := fun i hi => ahr (hd ▸ hi)
 rw [hd] at hp hn s3 s4
 obtain ⟨v, hv⟩ : ∃ v, dv 10 (dgs (l.take d)) = v := ⟨_, rfl⟩
 rw [hv] at hp s3 s4
 refine cl ay Tryd.func25 ?_
 repeat' ((conv => whnf); first | refine aw.data ?_ | refine rgE ?_ | refine Cd.mk rfl ?_ | refine Br.t ?_ | refine Br.f ?_ | with_reducible refine Br.eqd ?_ | with_reducible refine Br.eqb ?_ | with_reducible refine Br.dec (fun _ => ?_) (fun _ => ?_) | with_reducible refine Br.br (fun _ => ?_) (fun _ => ?_) | refine Br.mk (fun _ => ?_) (fun _ => ?_) | refine ao.mk _ rfl ?_ | refine And.intro (fun _ => ?_) ?_ | (refine TkE.fL ?_; (conv => whnf); fail_if_success (show ag _ _)) | refine TkE.mk _ rfl rfl ?_ | refine Res.mk ?_ | refine a8.mk (by repeat first | exact True.intro | refine And.intro (by kernel_rfl) ?_) ?_ | refine DsE.mk [] rfl ?_ | refine ai.cu _ _ ?_ | ((with_reducible refine EqE.idT ?_); first | ((conv => arg 1; simp only [ak, List.toList_toArray, an, ae, aa, Int.toNat_natCast, Int.toNat_zero, Int.toNat_one, b4, b5, List.drop_zero, Nat.sub_zero, List.cons_append, List.nil_append]); refine EqE.mk _ rfl ?_) | refine EqE.mk _ rfl ?_) | ((with_reducible refine EqE.idP ?_); first | ((conv => arg 1; simp only [ak, List.toList_toArray, bz, b3]); refine EqE.mk _ rfl ?_) | refine EqE.mk _ rfl ?_) | ((with_reducible refine EqE.idN ?_); first | ((conv => arg 1; simp only [ak, List.toList_toArray, aa, bb, Int.toNat_natCast, Int.toNat_zero, Int.toNat_one, List.length_cons, List.length_nil, Nat.zero_add]); refine EqE.mk _ rfl ?_)) | ((with_reducible refine EqE.idW ?_); first | with_reducible refine EqE.mk _ (a7 _ (by omega)) ?_ | with_reducible refine EqE.mk _ (ar _ (by omega)) ?_ | refine EqE.mk _ (ah (by omega) (by omega)) ?_ | refine EqE.mk _ rfl ?_) | ((with_reducible refine EqE.idM ?_); refine EqE.mk _ rfl ?_) | ((with_reducible refine EqE.idI ?_); first | refine EqE.mk _ (max_eq _ _) ?_ | refine EqE.mk _ (min_eq _ _) ?_) | ((with_reducible refine EqE.idS ?_); first | (refine EqE.fP ?_; (conv => whnf); fail_if_success (show ag _ _)) | refine EqE.mk _ rfl ?_) | ((with_reducible refine EqE.idL ?_); first | refine EqE.mk _ (ax _ _ _ _ (by omega) (by omega) rfl) ?_ | refine EqE.mk _ rfl ?_) | refine EqE.mk _ rfl ?_ | refine Cd.ro ?_ | refine Cd.dc ?_ | refine Cd.ob ?_ | refine Cd.ol ?_ | refine Cd.mk ⟨rfl, rfl⟩ ?_ | refine Cd.os ?_ | refine Cd.mk ?_ ?_ | refine DsE.mk [_] rfl ?_ | refine DsE.mk [_, _, _] rfl ?_)
 refine ti ay 0 [] [0, 1, 4, 7, 8, 9] [4] (fun m xs h => ∃ i : Nat, m = l.length - i ∧ 1 ≤ i ∧ i < d ∧ i < most ∧ x ≠ 48 ∧ xs = [.d (.str (bst l)), .d (.int .i64 most), .ptr 4 0, .d (.int .i64 (i : Nat)), .d (.bool false), .d (.int .i64 0)] ∧ h = [(4, false, [.d (.bool false), .d .nil])]) rfl ?_ ?_
 ·by_cases c1 : l.length = 0
  ·rw [if_pos c1] at hp
   repeat' ((conv => whnf); first | refine aw.data ?_ | with_reducible refine Br.bt fun _ => ?_ | with_reducible refine Br.bf fun _ => ?_ | refine cE s1 ?_ | refine rgE ?_ | refine Cd.mk rfl ?_ | refine Br.t ?_ | refine Br.f ?_ | with_reducible refine Br.eqd ?_ | with_reducible refine Br.eqb ?_ | with_reducible refine Br.dec (fun _ => ?_) (fun _ => ?_) | with_reducible refine Br.br (fun _ => ?_) (fun _ => ?_) | refine Br.mk (fun _ => ?_) (fun _ => ?_) | refine ao.mk _ rfl ?_ | refine And.intro (fun _ => ?_) ?_ | (refine TkE.fL ?_; (conv => whnf); fail_if_success (show ag _ _)) | refine TkE.mk _ rfl rfl ?_ | refine Res.mk ?_ | refine a8.mk (by repeat first | exact True.intro | refine And.intro (by kernel_rfl) ?_) ?_ | refine DsE.mk [] rfl ?_ | refine ai.cu _ _ ?_ | ((with_reducible refine EqE.idT ?_); first | ((conv => arg 1; simp only [ak, List.toList_toArray, an, ae, aa, Int.toNat_natCast, Int.toNat_zero, Int.toNat_one, b4, b5, List.drop_zero, Nat.sub_zero, List.cons_append, List.nil_append]); refine EqE.mk _ rfl ?_) | refine EqE.mk _ rfl ?_) | ((with_reducible refine EqE.idP ?_); first | ((conv => arg 1; simp only [ak, List.toList_toArray, bz, b3]); refine EqE.mk _ rfl ?_) | refine EqE.mk _ rfl ?_) | ((with_reducible refine EqE.idN ?_); first | ((conv => arg 1; simp only [ak, List.toList_toArray, aa, bb, Int.toNat_natCast, Int.toNat_zero, Int.toNat_one, List.length_cons, List.length_nil, Nat.zero_add]); refine EqE.mk _ rfl ?_)) | ((with_reducible refine EqE.idW ?_); first | with_reducible refine EqE.mk _ (a7 _ (by omega)) ?_ | with_reducible refine EqE.mk _ (ar _ (by omega)) ?_ | refine EqE.mk _ (ah (by omega) (by omega)) ?_ | refine EqE.mk _ rfl ?_) | ((with_reducible refine EqE.idM ?_); refine EqE.mk _ rfl ?_) | ((with_reducible refine EqE.idI ?_); first | refine EqE.mk _ (max_eq _ _) ?_ | refine EqE.mk _ (min_eq _ _) ?_) | ((with_reducible refine EqE.idS ?_); first | (refine EqE.fP ?_; (conv => whnf); fail_if_success (show ag _ _)) | refine EqE.mk _ rfl ?_) | ((with_reducible refine EqE.idL ?_); first | refine EqE.mk _ (ax _ _ _ _ (by omega) (by omega) rfl) ?_ | refine EqE.mk _ rfl ?_) | refine EqE.mk _ rfl ?_ | refine Cd.ro ?_ | refine Cd.dc ?_ | refine Cd.ob ?_ | refine Cd.ol ?_ | refine Cd.mk ⟨rfl, rfl⟩ ?_ | refine Cd.os ?_ | refine Cd.mk ?_ ?_ | refine DsE.mk [_] rfl ?_ | refine DsE.mk [_, _, _] rfl ?_)
   exact (hp ▸ kn).trans (oo rfl rfl rfl)
  rw [if_neg c1] at hp
  by_cases c2 : d = 0
  ·subst c2
   rw [if_pos rfl] at hp
   have s2 := sd 0 (by omega)
   rw [hend] at s2
   repeat' ((conv => whnf); first | refine aw.data ?_ | with_reducible refine Br.bt fun _ => ?_ | with_reducible refine Br.bf fun _ => ?_ | refine cE s1 ?_ | refine cE s2 ?_ | refine rgE ?_ | refine Cd.mk rfl ?_ | refine Br.t ?_ | refine Br.f ?_ | with_reducible refine Br.eqd ?_ | with_reducible refine Br.eqb ?_ | with_reducible refine Br.dec (fun _ => ?_) (fun _ => ?_) | with_reducible refine Br.br (fun _ => ?_) (fun _ => ?_) | refine Br.mk (fun _ => ?_) (fun _ => ?_) | refine ao.mk _ rfl ?_ | refine And.intro (fun _ => ?_) ?_ | (refine TkE.fL ?_; (conv => whnf); fail_if_success (show ag _ _)) | refine TkE.mk _ rfl rfl ?_ | refine Res.mk ?_ | refine a8.mk (by repeat first | exact True.intro | refine And.intro (by kernel_rfl) ?_) ?_ | refine DsE.mk [] rfl ?_ | refine ai.cu _ _ ?_ | ((with_reducible refine EqE.idT ?_); first | ((conv => arg 1; simp only [ak, List.toList_toArray, an, ae, aa, Int.toNat_natCast, Int.toNat_zero, Int.toNat_one, b4, b5, List.drop_zero, Nat.sub_zero, List.cons_append, List.nil_append]); refine EqE.mk _ rfl ?_) | refine EqE.mk _ rfl ?_) | ((with_reducible refine EqE.idP ?_); first | ((conv => arg 1; simp only [ak, List.toList_toArray, bz, b3]); refine EqE.mk _ rfl ?_) | refine EqE.mk _ rfl ?_) | ((with_reducible refine EqE.idN ?_); first | ((conv => arg 1; simp only [ak, List.toList_toArray, aa, bb, Int.toNat_natCast, Int.toNat_zero, Int.toNat_one, List.length_cons, List.length_nil, Nat.zero_add]); refine EqE.mk _ rfl ?_)) | ((with_reducible refine EqE.idW ?_); first | with_reducible refine EqE.mk _ (a7 _ (by omega)) ?_ | with_reducible refine EqE.mk _ (ar _ (by omega)) ?_ | refine EqE.mk _ (ah (by omega) (by omega)) ?_ | refine EqE.mk _ rfl ?_) | ((with_reducible refine EqE.idM ?_); refine EqE.mk _ rfl ?_) | ((with_reducible refine EqE.idI ?_); first | refine EqE.mk _ (max_eq _ _) ?_ | refine EqE.mk _ (min_eq _ _) ?_) | ((with_reducible refine EqE.idS ?_); first | (refine EqE.fP ?_; (conv => whnf); fail_if_success (show ag _ _)) | refine EqE.mk _ rfl ?_) | ((with_reducible refine EqE.idL ?_); first | refine EqE.mk _ (ax _ _ _ _ (by omega) (by omega) rfl) ?_ | refine EqE.mk _ rfl ?_) | refine EqE.mk _ rfl ?_ | refine Cd.ro ?_ | refine Cd.dc ?_ | refine Cd.ob ?_ | refine Cd.ol ?_ | refine Cd.mk ⟨rfl, rfl⟩ ?_ | refine Cd.os ?_ | refine Cd.mk ?_ ?_ | refine DsE.mk [_] rfl ?_ | refine DsE.mk [_, _, _] rfl ?_)
   exact (hp ▸ kn).trans (oo rfl rfl rfl)
  have s2 := sd 0 (by omega)
  rw [hat 0 (by omega)] at s2
  rw [if_neg c2] at hp
  have s5 := sd 1 (by omega)
  by_cases c4 : d = 1
  ·subst c4
   rw [hend] at s5
   rw [if_neg (by omega), if_neg (by omega)] at hp
   have hs1 := hsub 1
   repeat' ((conv => whnf); first | refine aw.data ?_ | with_reducible refine Br.bt fun _ => ?_ | with_reducible refine Br.bf fun _ => ?_ | refine cE s1 ?_ | refine cE s2 ?_ | refine cE s5 ?_ | refine cE s3 ?_ | refine cE s4 ?_ | refine rgE ?_ | refine Cd.mk rfl ?_ | refine Br.t ?_ | refine Br.f ?_ | with_reducible refine Br.eqd ?_ | with_reducible refine Br.eqb ?_ | with_reducible refine Br.dec (fun _ => ?_) (fun _ => ?_) | with_reducible refine Br.br (fun _ => ?_) (fun _ => ?_) | refine Br.mk (fun _ => ?_) (fun _ => ?_) | refine ao.mk _ rfl ?_ | refine And.intro (fun _ => ?_) ?_ | (refine TkE.fL ?_; (conv => whnf); fail_if_success (show ag _ _)) | refine TkE.mk _ rfl rfl ?_ | refine Res.mk ?_ | refine a8.mk (by repeat first | exact True.intro | refine And.intro (by kernel_rfl) ?_) ?_ | refine DsE.mk [] rfl ?_ | refine ai.cu _ _ ?_ | ((with_reducible refine EqE.idT ?_); first | refine EqE.mk _ hs1 ?_ | ((conv => arg 1; simp only [ak, List.toList_toArray, an, ae, aa, Int.toNat_natCast, Int.toNat_zero, Int.toNat_one, b4, b5, List.drop_zero, Nat.sub_zero, List.cons_append, List.nil_append]); refine EqE.mk _ rfl ?_) | refine EqE.mk _ rfl ?_) | ((with_reducible refine EqE.idP ?_); first | ((conv => arg 1; simp only [ak, List.toList_toArray, bz, b3]); refine EqE.mk _ rfl ?_) | refine EqE.mk _ rfl ?_) | ((with_reducible refine EqE.idN ?_); first | refine EqE.mk _ (ac1 hx') ?_ | ((conv => arg 1; simp only [ak, List.toList_toArray, aa, bb, Int.toNat_natCast, Int.toNat_zero, Int.toNat_one, List.length_cons, List.length_nil, Nat.zero_add]); refine EqE.mk _ rfl ?_)) | ((with_reducible refine EqE.idW ?_); first | refine EqE.mk ((1 : Nat) : Int) (by decide) ?_ | with_reducible refine EqE.mk _ (a7 _ (by omega)) ?_ | with_reducible refine EqE.mk _ (ar _ (by omega)) ?_ | refine EqE.mk _ (ah (by omega) (by omega)) ?_ | refine EqE.mk _ rfl ?_) | ((with_reducible refine EqE.idM ?_); refine EqE.mk _ rfl ?_) | ((with_reducible refine EqE.idI ?_); first | refine EqE.mk _ (max_eq _ _) ?_ | refine EqE.mk _ (min_eq _ _) ?_) | ((with_reducible refine EqE.idS ?_); first | (refine EqE.fP ?_; (conv => whnf); fail_if_success (show ag _ _)) | refine EqE.mk _ rfl ?_) | ((with_reducible refine EqE.idL ?_); first | refine EqE.mk _ (ax _ _ _ _ (by omega) (by omega) rfl) ?_ | refine EqE.mk _ rfl ?_) | refine EqE.mk _ rfl ?_ | refine Cd.ro ?_ | refine Cd.dc ?_ | refine Cd.ob ?_ | refine Cd.ol ?_ | refine Cd.mk ⟨rfl, rfl⟩ ?_ | refine Cd.os ?_ | refine Cd.mk ?_ ?_ | refine DsE.mk [_] rfl ?_ | refine DsE.mk [_, _, _] rfl ?_)
   rw [hp]
   exact oo rfl rfl rfl
  rw [hat 1 (by omega)] at s5
  by_cases c3 : x = 48
  ·subst c3
   rw [if_pos ⟨hx, by omega⟩] at hp
   repeat' ((conv => whnf); first | refine aw.data ?_ | with_reducible refine Br.bt fun _ => ?_ | with_reducible refine Br.bf fun _ => ?_ | refine cE s1 ?_ | refine cE s2 ?_ | refine cE s5 ?_ | refine rgE ?_ | refine Cd.mk rfl ?_ | refine Br.t ?_ | refine Br.f ?_ | with_reducible refine Br.eqd ?_ | with_reducible refine Br.eqb ?_ | with_reducible refine Br.dec (fun _ => ?_) (fun _ => ?_) | with_reducible refine Br.br (fun _ => ?_) (fun _ => ?_) | refine Br.mk (fun _ => ?_) (fun _ => ?_) | refine ao.mk _ rfl ?_ | refine And.intro (fun _ => ?_) ?_ | (refine TkE.fL ?_; (conv => whnf); fail_if_success (show ag _ _)) | refine TkE.mk _ rfl rfl ?_ | refine Res.mk ?_ | refine a8.mk (by repeat first | exact True.intro | refine And.intro (by kernel_rfl) ?_) ?_ | refine DsE.mk [] rfl ?_ | refine ai.cu _ _ ?_ | ((with_reducible refine EqE.idT ?_); first | ((conv => arg 1; simp only [ak, List.toList_toArray, an, ae, aa, Int.toNat_natCast, Int.toNat_zero, Int.toNat_one, b4, b5, List.drop_zero, Nat.sub_zero, List.cons_append, List.nil_append]); refine EqE.mk _ rfl ?_) | refine EqE.mk _ rfl ?_) | ((with_reducible refine EqE.idP ?_); first | ((conv => arg 1; simp only [ak, List.toList_toArray, bz, b3]); refine EqE.mk _ rfl ?_) | refine EqE.mk _ rfl ?_) | ((with_reducible refine EqE.idN ?_); first | refine EqE.mk _ (ac1 hx') ?_ | ((conv => arg 1; simp only [ak, List.toList_toArray, aa, bb, Int.toNat_natCast, Int.toNat_zero, Int.toNat_one, List.length_cons, List.length_nil, Nat.zero_add]); refine EqE.mk _ rfl ?_)) | ((with_reducible refine EqE.idW ?_); first | refine EqE.mk ((1 : Nat) : Int) (by decide) ?_ | with_reducible refine EqE.mk _ (a7 _ (by omega)) ?_ | with_reducible refine EqE.mk _ (ar _ (by omega)) ?_ | refine EqE.mk _ (ah (by omega) (by omega)) ?_ | refine EqE.mk _ rfl ?_) | ((with_reducible refine EqE.idM ?_); refine EqE.mk _ rfl ?_) | ((with_reducible refine EqE.idI ?_); first | refine EqE.mk _ (max_eq _ _) ?_ | refine EqE.mk _ (min_eq _ _) ?_) | ((with_reducible refine EqE.idS ?_); first | (refine EqE.fP ?_; (conv => whnf); fail_if_success (show ag _ _)) | refine EqE.mk _ rfl ?_) | ((with_reducible refine EqE.idL ?_); first | refine EqE.mk _ (ax _ _ _ _ (by omega) (by omega) rfl) ?_ | refine EqE.mk _ rfl ?_) | refine EqE.mk _ rfl ?_ | refine Cd.ro ?_ | refine Cd.dc ?_ | refine Cd.ob ?_ | refine Cd.ol ?_ | refine Cd.mk ⟨rfl, rfl⟩ ?_ | refine Cd.os ?_ | refine Cd.mk ?_ ?_ | refine DsE.mk [_] rfl ?_ | refine DsE.mk [_, _, _] rfl ?_)
   exact (hp ▸ kn).trans (oo rfl rfl rfl)
  rw [if_neg (fun q => c3 (hx ▸ q.1))] at hp
  have hx48 : ((x.toNat : Nat) : Int) ≠ 48 := fun h => c3 (n48.1 h)
  by_cases c5 : most = 1
  ·subst c5
   rw [if_pos (by omega)] at hp
   repeat' ((conv => whnf); first | refine aw.data ?_ | with_reducible refine Br.bt fun _ => ?_ | with_reducible refine Br.bf fun _ => ?_ | refine cE s1 ?_ | refine cE s2 ?_ | refine cE s5 ?_ | refine rgE ?_ | refine Cd.mk rfl ?_ | refine Br.t ?_ | refine Br.f ?_ | with_reducible refine Br.eqd ?_ | with_reducible refine Br.eqb ?_ | with_reducible refine Br.dec (fun _ => ?_) (fun _ => ?_) | with_reducible refine Br.br (fun _ => ?_) (fun _ => ?_) | refine Br.mk (fun _ => ?_) (fun _ => ?_) | refine ao.mk _ rfl ?_ | refine And.intro (fun _ => ?_) ?_ | (refine TkE.fL ?_; (conv => whnf); fail_if_success (show ag _ _)) | refine TkE.mk _ rfl rfl ?_ | refine Res.mk ?_ | refine a8.mk (by repeat first | exact True.intro | refine And.intro (by kernel_rfl) ?_) ?_ | refine DsE.mk [] rfl ?_ | refine ai.cu _ _ ?_ | ((with_reducible refine EqE.idT ?_); first | ((conv => arg 1; simp only [ak, List.toList_toArray, an, ae, aa, Int.toNat_natCast, Int.toNat_zero, Int.toNat_one, b4, b5, List.drop_zero, Nat.sub_zero, List.cons_append, List.nil_append]); refine EqE.mk _ rfl ?_) | refine EqE.mk _ rfl ?_) | ((with_reducible refine EqE.idP ?_); first | ((conv => arg 1; simp only [ak, List.toList_toArray, bz, b3]); refine EqE.mk _ rfl ?_) | refine EqE.mk _ rfl ?_) | ((with_reducible refine EqE.idN ?_); first | refine EqE.mk _ (ac1 hx') ?_ | ((conv => arg 1; simp only [ak, List.toList_toArray, aa, bb, Int.toNat_natCast, Int.toNat_zero, Int.toNat_one, List.length_cons, List.length_nil, Nat.zero_add]); refine EqE.mk _ rfl ?_)) | ((with_reducible refine EqE.idW ?_); first | refine EqE.mk ((1 : Nat) : Int) (by decide) ?_ | with_reducible refine EqE.mk _ (a7 _ (by omega)) ?_ | with_reducible refine EqE.mk _ (ar _ (by omega)) ?_ | refine EqE.mk _ (ah (by omega) (by omega)) ?_ | refine EqE.mk _ rfl ?_) | ((with_reducible refine EqE.idM ?_); refine EqE.mk _ rfl ?_) | ((with_reducible refine EqE.idI ?_); first | refine EqE.mk _ (max_eq _ _) ?_ | refine EqE.mk _ (min_eq _ _) ?_) | ((with_reducible refine EqE.idS ?_); first | (refine EqE.fP ?_; (conv => whnf); fail_if_success (show ag _ _)) | refine EqE.mk _ rfl ?_) | ((with_reducible refine EqE.idL ?_); first | refine EqE.mk _ (ax _ _ _ _ (by omega) (by omega) rfl) ?_ | refine EqE.mk _ rfl ?_) | refine EqE.mk _ rfl ?_ | refine Cd.ro ?_ | refine Cd.dc ?_ | refine Cd.ob ?_ | refine Cd.ol ?_ | refine Cd.mk ⟨rfl, rfl⟩ ?_ | refine Cd.os ?_ | refine Cd.mk ?_ ?_ | refine DsE.mk [_] rfl ?_ | refine DsE.mk [_, _, _] rfl ?_)
   exact (hp ▸ kn).trans (oo rfl rfl rfl)
  ·repeat' ((conv => whnf); first | refine aw.data ?_ | with_reducible refine Br.bt fun _ => ?_ | with_reducible refine Br.bf fun _ => ?_ | refine cE s1 ?_ | refine cE s2 ?_ | refine cE s5 ?_ | refine rgE ?_ | refine Cd.mk rfl ?_ | refine Br.t ?_ | refine Br.f ?_ | with_reducible refine Br.eqd ?_ | with_reducible refine Br.eqb ?_ | with_reducible refine Br.dec (fun _ => ?_) (fun _ => ?_) | with_reducible refine Br.br (fun _ => ?_) (fun _ => ?_) | refine Br.mk (fun _ => ?_) (fun _ => ?_) | refine ao.mk _ rfl ?_ | refine And.intro (fun _ => ?_) ?_ | (refine TkE.fL ?_; (conv => whnf); fail_if_success (show ag _ _)) | refine TkE.mk _ rfl rfl ?_ | refine Res.mk ?_ | refine a8.mk (by repeat first | exact True.intro | refine And.intro (by kernel_rfl) ?_) ?_ | refine DsE.mk [] rfl ?_ | refine ai.cu _ _ ?_ | ((with_reducible refine EqE.idT ?_); first | ((conv => arg 1; simp only [ak, List.toList_toArray, an, ae, aa, Int.toNat_natCast, Int.toNat_zero, Int.toNat_one, b4, b5, List.drop_zero, Nat.sub_zero, List.cons_append, List.nil_append]); refine EqE.mk _ rfl ?_) | refine EqE.mk _ rfl ?_) | ((with_reducible refine EqE.idP ?_); first | ((conv => arg 1; simp only [ak, List.toList_toArray, bz, b3]); refine EqE.mk _ rfl ?_) | refine EqE.mk _ rfl ?_) | ((with_reducible refine EqE.idN ?_); first | refine EqE.mk _ (ac1 hx') ?_ | ((conv => arg 1; simp only [ak, List.toList_toArray, aa, bb, Int.toNat_natCast, Int.toNat_zero, Int.toNat_one, List.length_cons, List.length_nil, Nat.zero_add]); refine EqE.mk _ rfl ?_)) | ((with_reducible refine EqE.idW ?_); first | refine EqE.mk ((1 : Nat) : Int) (by decide) ?_ | with_reducible refine EqE.mk _ (a7 _ (by omega)) ?_ | with_reducible refine EqE.mk _ (ar _ (by omega)) ?_ | refine EqE.mk _ (ah (by omega) (by omega)) ?_ | refine EqE.mk _ rfl ?_) | ((with_reducible refine EqE.idM ?_); refine EqE.mk _ rfl ?_) | ((with_reducible refine EqE.idI ?_); first | refine EqE.mk _ (max_eq _ _) ?_ | refine EqE.mk _ (min_eq _ _) ?_) | ((with_reducible refine EqE.idS ?_); first | (refine EqE.fP ?_; (conv => whnf); fail_if_success (show ag _ _)) | refine EqE.mk _ rfl ?_) | ((with_reducible refine EqE.idL ?_); first | refine EqE.mk _ (ax _ _ _ _ (by omega) (by omega) rfl) ?_ | refine EqE.mk _ rfl ?_) | refine EqE.mk _ rfl ?_ | refine Cd.ro ?_ | refine Cd.dc ?_ | refine Cd.ob ?_ | refine Cd.ol ?_ | refine Cd.mk ⟨rfl, rfl⟩ ?_ | refine Cd.os ?_ | refine Cd.mk ?_ ?_ | refine DsE.mk [_] rfl ?_ | refine DsE.mk [_, _, _] rfl ?_)
   (conv => whnf)
   exact ⟨rfl, uo.mk _ _ _ ⟨.inl rfl, rfl, rfl, by first | rfl | (repeat first | exact all_nil _ | refine cz _ _ _ _ _ ?_)⟩ ⟨1, rfl, Nat.le_refl _, by omega, by omega, c3, rfl, rfl⟩⟩
 ·rintro m xs h ⟨i, rfl, h1i, hid, him, c3, rfl, rfl⟩
  have hx48 : ((x.toNat : Nat) : Int) ≠ 48 := fun h => c3 (n48.1 h)
  have s5 := sd (i + 1) (by omega)
  rw [if_neg (by omega), if_neg (by omega), if_neg (fun q => c3 (hx ▸ q.1))] at hp
  by_cases c4 : i + 1 = d
  ·rw [c4, hend] at s5
   rw [if_neg (by omega)] at hp
   have hs1 := hsub d
   repeat' ((conv => whnf); first | refine aw.data ?_ | with_reducible refine Br.bt fun _ => ?_ | with_reducible refine Br.bf fun _ => ?_ | refine cE s5 ?_ | refine cE s3 ?_ | refine cE s4 ?_ | refine rgE ?_ | refine Cd.mk rfl ?_ | refine Br.t ?_ | refine Br.f ?_ | with_reducible refine Br.eqd ?_ | with_reducible refine Br.eqb ?_ | with_reducible refine Br.dec (fun _ => ?_) (fun _ => ?_) | with_reducible refine Br.br (fun _ => ?_) (fun _ => ?_) | refine Br.mk (fun _ => ?_) (fun _ => ?_) | refine ao.mk _ rfl ?_ | refine And.intro (fun _ => ?_) ?_ | (refine TkE.fL ?_; (conv => whnf); fail_if_success (show ag _ _)) | refine TkE.mk _ rfl rfl ?_ | refine Res.mk ?_ | refine a8.mk (by repeat first | exact True.intro | refine And.intro (by kernel_rfl) ?_) ?_ | refine DsE.mk [] rfl ?_ | refine ai.cu _ _ ?_ | ((with_reducible refine EqE.idT ?_); first | refine EqE.mk _ hs1 ?_ | ((conv => arg 1; simp only [ak, List.toList_toArray, an, ae, aa, Int.toNat_natCast, Int.toNat_zero, Int.toNat_one, b4, b5, List.drop_zero, Nat.sub_zero, List.cons_append, List.nil_append]); refine EqE.mk _ rfl ?_) | refine EqE.mk _ rfl ?_) | ((with_reducible refine EqE.idP ?_); first | ((conv => arg 1; simp only [ak, List.toList_toArray, bz, b3]); refine EqE.mk _ rfl ?_) | refine EqE.mk _ rfl ?_) | ((with_reducible refine EqE.idN ?_); first | refine EqE.mk _ (ac1 hx') ?_ | ((conv => arg 1; simp only [ak, List.toList_toArray, aa, bb, Int.toNat_natCast, Int.toNat_zero, Int.toNat_one, List.length_cons, List.length_nil, Nat.zero_add]); refine EqE.mk _ rfl ?_)) | ((with_reducible refine EqE.idW ?_); first | refine EqE.mk (d : Int) (by rw [ah (by omega) (by omega)]; omega) ?_ | with_reducible refine EqE.mk _ (a7 _ (by omega)) ?_ | with_reducible refine EqE.mk _ (ar _ (by omega)) ?_ | refine EqE.mk _ (ah (by omega) (by omega)) ?_ | refine EqE.mk _ rfl ?_) | ((with_reducible refine EqE.idM ?_); refine EqE.mk _ rfl ?_) | ((with_reducible refine EqE.idI ?_); first | refine EqE.mk _ (max_eq _ _) ?_ | refine EqE.mk _ (min_eq _ _) ?_) | ((with_reducible refine EqE.idS ?_); first | (refine EqE.fP ?_; (conv => whnf); fail_if_success (show ag _ _)) | refine EqE.mk _ rfl ?_) | ((with_reducible refine EqE.idL ?_); first | refine EqE.mk _ (ax _ _ _ _ (by omega) (by omega) rfl) ?_ | refine EqE.mk _ rfl ?_) | refine EqE.mk _ rfl ?_ | refine Cd.ro ?_ | refine Cd.dc ?_ | refine Cd.ob ?_ | refine Cd.ol ?_ | refine Cd.mk ⟨rfl, rfl⟩ ?_ | refine Cd.os ?_ | refine Cd.mk ?_ ?_ | refine DsE.mk [_] rfl ?_ | refine DsE.mk [_, _, _] rfl ?_)
   rw [hp]
   exact oo rfl rfl rfl
  ·rw [hat (i + 1) (by omega)] at s5
   by_cases c5 : most = i + 1
   ·subst c5
    rw [if_pos (by omega)] at hp
    repeat' ((conv => whnf); first | refine aw.data ?_ | with_reducible refine Br.bt fun _ => ?_ | with_reducible refine Br.bf fun _ => ?_ | refine cE s5 ?_ | refine rgE ?_ | refine Cd.mk rfl ?_ | refine Br.t ?_ | refine Br.f ?_ | with_reducible refine Br.eqd ?_ | with_reducible refine Br.eqb ?_ | with_reducible refine Br.dec (fun _ => ?_) (fun _ => ?_) | with_reducible refine Br.br (fun _ => ?_) (fun _ => ?_) | refine Br.mk (fun _ => ?_) (fun _ => ?_) | refine ao.mk _ rfl ?_ | refine And.intro (fun _ => ?_) ?_ | (refine TkE.fL ?_; (conv => whnf); fail_if_success (show ag _ _)) | refine TkE.mk _ rfl rfl ?_ | refine Res.mk ?_ | refine a8.mk (by repeat first | exact True.intro | refine And.intro (by kernel_rfl) ?_) ?_ | refine DsE.mk [] rfl ?_ | refine ai.cu _ _ ?_ | ((with_reducible refine EqE.idT ?_); first | ((conv => arg 1; simp only [ak, List.toList_toArray, an, ae, aa, Int.toNat_natCast, Int.toNat_zero, Int.toNat_one, b4, b5, List.drop_zero, Nat.sub_zero, List.cons_append, List.nil_append]); refine EqE.mk _ rfl ?_) | refine EqE.mk _ rfl ?_) | ((with_reducible refine EqE.idP ?_); first | ((conv => arg 1; simp only [ak, List.toList_toArray, bz, b3]); refine EqE.mk _ rfl ?_) | refine EqE.mk _ rfl ?_) | ((with_reducible refine EqE.idN ?_); first | refine EqE.mk _ (ac1 hx') ?_ | ((conv => arg 1; simp only [ak, List.toList_toArray, aa, bb, Int.toNat_natCast, Int.toNat_zero, Int.toNat_one, List.length_cons, List.length_nil, Nat.zero_add]); refine EqE.mk _ rfl ?_)) | ((with_reducible refine EqE.idW ?_); first | refine EqE.mk ((i + 1 : Nat) : Int) (by rw [ah (by omega) (by omega)]; omega) ?_ | with_reducible refine EqE.mk _ (a7 _ (by omega)) ?_ | with_reducible refine EqE.mk _ (ar _ (by omega)) ?_ | refine EqE.mk _ (ah (by omega) (by omega)) ?_ | refine EqE.mk _ rfl ?_) | ((with_reducible refine EqE.idM ?_); refine EqE.mk _ rfl ?_) | ((with_reducible refine EqE.idI ?_); first | refine EqE.mk _ (max_eq _ _) ?_ | refine EqE.mk _ (min_eq _ _) ?_) | ((with_reducible refine EqE.idS ?_); first | (refine EqE.fP ?_; (conv => whnf); fail_if_success (show ag _ _)) | refine EqE.mk _ rfl ?_) | ((with_reducible refine EqE.idL ?_); first | refine EqE.mk _ (ax _ _ _ _ (by omega) (by omega) rfl) ?_ | refine EqE.mk _ rfl ?_) | refine EqE.mk _ rfl ?_ | refine Cd.ro ?_ | refine Cd.dc ?_ | refine Cd.ob ?_ | refine Cd.ol ?_ | refine Cd.mk ⟨rfl, rfl⟩ ?_ | refine Cd.os ?_ | refine Cd.mk ?_ ?_ | refine DsE.mk [_] rfl ?_ | refine DsE.mk [_, _, _] rfl ?_)
    exact (hp ▸ kn).trans (oo rfl rfl rfl)
   ·repeat' ((conv => whnf); first | refine aw.data ?_ | with_reducible refine Br.bt fun _ => ?_ | with_reducible refine Br.bf fun _ => ?_ | refine cE s5 ?_ | refine rgE ?_ | refine Cd.mk rfl ?_ | refine Br.t ?_ | refine Br.f ?_ | with_reducible refine Br.eqd ?_ | with_reducible refine Br.eqb ?_ | with_reducible refine Br.dec (fun _ => ?_) (fun _ => ?_) | with_reducible refine Br.br (fun _ => ?_) (fun _ => ?_) | refine Br.mk (fun _ => ?_) (fun _ => ?_) | refine ao.mk _ rfl ?_ | refine And.intro (fun _ => ?_) ?_ | (refine TkE.fL ?_; (conv => whnf); fail_if_success (show ag _ _)) | refine TkE.mk _ rfl rfl ?_ | refine Res.mk ?_ | refine a8.mk (by repeat first | exact True.intro | refine And.intro (by kernel_rfl) ?_) ?_ | refine DsE.mk [] rfl ?_ | refine ai.cu _ _ ?_ | ((with_reducible refine EqE.idT ?_); first | ((conv => arg 1; simp only [ak, List.toList_toArray, an, ae, aa, Int.toNat_natCast, Int.toNat_zero, Int.toNat_one, b4, b5, List.drop_zero, Nat.sub_zero, List.cons_append, List.nil_append]); refine EqE.mk _ rfl ?_) | refine EqE.mk _ rfl ?_) | ((with_reducible refine EqE.idP ?_); first | ((conv => arg 1; simp only [ak, List.toList_toArray, bz, b3]); refine EqE.mk _ rfl ?_) | refine EqE.mk _ rfl ?_) | ((with_reducible refine EqE.idN ?_); first | refine EqE.mk _ (ac1 hx') ?_ | ((conv => arg 1; simp only [ak, List.toList_toArray, aa, bb, Int.toNat_natCast, Int.toNat_zero, Int.toNat_one, List.length_cons, List.length_nil, Nat.zero_add]); refine EqE.mk _ rfl ?_)) | ((with_reducible refine EqE.idW ?_); first | refine EqE.mk ((i + 1 : Nat) : Int) (by rw [ah (by omega) (by omega)]; omega) ?_ | with_reducible refine EqE.mk _ (a7 _ (by omega)) ?_ | with_reducible refine EqE.mk _ (ar _ (by omega)) ?_ | refine EqE.mk _ (ah (by omega) (by omega)) ?_ | refine EqE.mk _ rfl ?_) | ((with_reducible refine EqE.idM ?_); refine EqE.mk _ rfl ?_) | ((with_reducible refine EqE.idI ?_); first | refine EqE.mk _ (max_eq _ _) ?_ | refine EqE.mk _ (min_eq _ _) ?_) | ((with_reducible refine EqE.idS ?_); first | (refine EqE.fP ?_; (conv => whnf); fail_if_success (show ag _ _)) | refine EqE.mk _ rfl ?_) | ((with_reducible refine EqE.idL ?_); first | refine EqE.mk _ (ax _ _ _ _ (by omega) (by omega) rfl) ?_ | refine EqE.mk _ rfl ?_) | refine EqE.mk _ rfl ?_ | refine Cd.ro ?_ | refine Cd.dc ?_ | refine Cd.ob ?_ | refine Cd.ol ?_ | refine Cd.mk ⟨rfl, rfl⟩ ?_ | refine Cd.os ?_ | refine Cd.mk ?_ ?_ | refine DsE.mk [_] rfl ?_ | refine DsE.mk [_, _, _] rfl ?_)
    (conv => whnf)
    exact ⟨rfl, ai.mk _ _ _ ⟨.inl rfl, rfl, rfl, by first | rfl | (repeat first | exact all_nil _ | refine cz _ _ _ _ _ ?_)⟩ (by show l.length - (i + 1) < l.length - i; omega) ⟨i + 1, rfl, by omega, by omega, by omega, c3, rfl, rfl⟩⟩
theorem aia (l : List UInt8) (most : Nat) (hl : l.length < 2 ^ 19) (h1 : 1 ≤ most) (h2 : most < 2 ^ 40) : Sim Tryd.prog G0 false 25 [.str (bst l), .int .i64 most] (pD (rd l most)) := by
 by_cases hf : l.head? = some 45
 ·obtain ⟨r, rfl⟩ : ∃ r, l = 45 :: r := by
   cases l with
   | nil => simp at hf
   | cons y r => simp at hf; exact ⟨r, by rw [hf]⟩
  exact ah8 r most (by rw [List.length_cons] at hl; omega) h1 h2
 ·exact ah9 l hf most hl h1 h2
end Go.Ev.Ar

-- STR
namespace Go.Ev.Ar
open Go Go.Ev Go.Proofs Go.RowKit
theorem al1 (l : List UInt8) : prs l = if (rd l 400).2.2 = 0 ∧ (rd l 400).2.1 < l.length then (0, (rd l 400).2.1, 14) else rd l 400 := by
 have K : ∀ {p q : Int × Nat × Nat}, rd l 400 = q → p = (if q.2.2 = 0 ∧ q.2.1 < l.length then (0, q.2.1, 14) else q) → p = if (rd l 400).2.2 = 0 ∧ (rd l 400).2.1 < l.length then (0, (rd l 400).2.1, 14) else rd l 400 := fun h g => by rw [h]; exact g
 by_cases hf : l.head? = some 45
 ·obtain ⟨r, rfl⟩ : ∃ r, l = 45 :: r := by
   cases l with
   | nil => simp at hf
   | cons y r => simp at hf; exact ⟨r, by rw [hf]⟩
  have hr := ah6 r 400
  rw [aj9]
  have hn := aeq r
  by_cases h0 : r.length = 0
  ·rw [if_pos h0] at hr
   refine K hr ?_
   rw [if_pos (by omega : nd r = 0), if_pos h0, if_neg (by simp)]
  rw [if_neg h0] at hr
  by_cases h1 : nd r = 0
  ·rw [if_pos (.inl h1)] at hr
   refine K hr ?_
   rw [if_pos h1, if_neg h0, if_neg (by simp)]
  rw [if_neg h1]
  by_cases h2 : nth 0 r 0 = 48
  ·rw [if_pos (.inr h2)] at hr
   refine K hr ?_
   rw [if_pos h2, if_neg (by simp)]
  rw [if_neg (by rintro (q | q); exact h1 q; exact h2 q)] at hr
  rw [if_neg h2]
  by_cases h3 : 400 < nd r
  ·rw [if_pos h3] at hr
   refine K hr ?_
   rw [if_pos h3, if_neg (by simp)]
  rw [if_neg h3] at hr
  rw [if_neg h3]
  refine K hr ?_
  by_cases h4 : nd r < r.length
  ·rw [if_pos h4, if_pos ⟨rfl, by show 1 + nd r < r.length + 1; omega⟩]
  ·have e : nd r = r.length := by omega
   rw [if_neg h4, if_neg (by rintro ⟨-, q⟩; change 1 + nd r < r.length + 1 at q; omega)]
   rw [e, List.take_length, Nat.add_comm]
   simp [zv]
 ·have hr := ah7 hf 400
  rw [aka hf]
  have hn := aeq l
  by_cases h0 : l.length = 0
  ·rw [if_pos h0] at hr
   refine K hr ?_
   rw [if_pos (by omega : nd l = 0), if_pos h0, if_neg (by simp)]
  rw [if_neg h0] at hr
  by_cases h1 : nd l = 0
  ·rw [if_pos h1] at hr
   refine K hr ?_
   rw [if_pos h1, if_neg h0, if_neg (by simp)]
  rw [if_neg h1] at hr
  rw [if_neg h1]
  by_cases h2 : nth 0 l 0 = 48 ∧ 1 < nd l
  ·rw [if_pos h2] at hr
   refine K hr ?_
   rw [if_pos h2, if_neg (by simp)]
  rw [if_neg h2] at hr
  rw [if_neg h2]
  by_cases h3 : 400 < nd l
  ·rw [if_pos h3] at hr
   refine K hr ?_
   rw [if_pos h3, if_neg (by simp)]
  rw [if_neg h3] at hr
  rw [if_neg h3]
  refine K hr ?_
  by_cases h4 : nd l < l.length
  ·rw [if_pos h4, if_pos ⟨rfl, h4⟩]
  ·have e : nd l = l.length := by omega
   rw [if_neg h4, if_neg (by rintro ⟨-, q⟩; exact h4 q)]
   rw [e, List.take_length]
   simp [zv]
theorem j6 (l : List UInt8) (hl : l.length < 2 ^ 19) : Sim Tryd.prog G0 false 8 [.str (bst l)] (pD (prs l)) := by
 have s1 := aia l 400 hl (by omega) (by omega)
 have hp := al1 l
 obtain ⟨⟨v, k, c⟩, h⟩ : ∃ p, rd l 400 = p := ⟨_, rfl⟩
 rw [h] at hp s1
 obtain ⟨p, hpp⟩ : ∃ p, prs l = p := ⟨_, rfl⟩
 rw [hpp] at hp ⊢
 simp only at hp
 unfold pD at s1
 simp only at s1
 by_cases h1 : c = 0
 ·by_cases h2 : k < l.length
  ·rw [if_pos ⟨h1, h2⟩] at hp
   subst h1
   refine cl ay Tryd.func8 ?_
   repeat' ((conv => whnf); first | refine aw.data ?_ | with_reducible refine Br.bt fun _ => ?_ | with_reducible refine Br.bf fun _ => ?_ | refine cE s1 ?_ | refine rgE ?_ | refine Cd.mk rfl ?_ | refine Br.t ?_ | refine Br.f ?_ | with_reducible refine Br.eqd ?_ | with_reducible refine Br.eqb ?_ | with_reducible refine Br.dec (fun _ => ?_) (fun _ => ?_) | with_reducible refine Br.br (fun _ => ?_) (fun _ => ?_) | refine Br.mk (fun _ => ?_) (fun _ => ?_) | refine ao.mk _ rfl ?_ | refine And.intro (fun _ => ?_) ?_ | (refine TkE.fL ?_; (conv => whnf); fail_if_success (show ag _ _)) | refine TkE.mk _ rfl rfl ?_ | refine Res.mk ?_ | refine a8.mk (by repeat first | exact True.intro | refine And.intro (by kernel_rfl) ?_) ?_ | refine DsE.mk [] rfl ?_ | refine ai.cu _ _ ?_ | ((with_reducible refine EqE.idT ?_); first | ((conv => arg 1; simp only [ak, List.toList_toArray, an, ae, aa, Int.toNat_natCast, Int.toNat_zero, Int.toNat_one, b4, b5, List.drop_zero, Nat.sub_zero, List.cons_append, List.nil_append]); refine EqE.mk _ rfl ?_) | refine EqE.mk _ rfl ?_) | ((with_reducible refine EqE.idP ?_); first | ((conv => arg 1; simp only [ak, List.toList_toArray, bz, b3]); refine EqE.mk _ rfl ?_) | refine EqE.mk _ rfl ?_) | ((with_reducible refine EqE.idN ?_); first | ((conv => arg 1; simp only [ak, List.toList_toArray, aa, bb, Int.toNat_natCast, Int.toNat_zero, Int.toNat_one, List.length_cons, List.length_nil, Nat.zero_add]); refine EqE.mk _ rfl ?_)) | ((with_reducible refine EqE.idW ?_); first | with_reducible refine EqE.mk _ (a7 _ (by omega)) ?_ | with_reducible refine EqE.mk _ (ar _ (by omega)) ?_ | refine EqE.mk _ (ah (by omega) (by omega)) ?_ | refine EqE.mk _ rfl ?_) | ((with_reducible refine EqE.idM ?_); refine EqE.mk _ rfl ?_) | ((with_reducible refine EqE.idI ?_); first | refine EqE.mk _ (max_eq _ _) ?_ | refine EqE.mk _ (min_eq _ _) ?_) | ((with_reducible refine EqE.idS ?_); first | (refine EqE.fP ?_; (conv => whnf); fail_if_success (show ag _ _)) | refine EqE.mk _ rfl ?_) | ((with_reducible refine EqE.idL ?_); first | refine EqE.mk _ (ax _ _ _ _ (by omega) (by omega) rfl) ?_ | refine EqE.mk _ rfl ?_) | refine EqE.mk _ rfl ?_ | refine Cd.ro ?_ | refine Cd.dc ?_ | refine Cd.ob ?_ | refine Cd.ol ?_ | refine Cd.mk ⟨rfl, rfl⟩ ?_ | refine Cd.os ?_ | refine Cd.mk ?_ ?_ | refine DsE.mk [_] rfl ?_ | refine DsE.mk [_, _, _] rfl ?_)
   exact (hp ▸ kn).trans (oo rfl rfl rfl)
  ·rw [if_neg (fun q => h2 q.2)] at hp
   subst h1
   refine cl ay Tryd.func8 ?_
   repeat' ((conv => whnf); first | refine aw.data ?_ | with_reducible refine Br.bt fun _ => ?_ | with_reducible refine Br.bf fun _ => ?_ | refine cE s1 ?_ | refine rgE ?_ | refine Cd.mk rfl ?_ | refine Br.t ?_ | refine Br.f ?_ | with_reducible refine Br.eqd ?_ | with_reducible refine Br.eqb ?_ | with_reducible refine Br.dec (fun _ => ?_) (fun _ => ?_) | with_reducible refine Br.br (fun _ => ?_) (fun _ => ?_) | refine Br.mk (fun _ => ?_) (fun _ => ?_) | refine ao.mk _ rfl ?_ | refine And.intro (fun _ => ?_) ?_ | (refine TkE.fL ?_; (conv => whnf); fail_if_success (show ag _ _)) | refine TkE.mk _ rfl rfl ?_ | refine Res.mk ?_ | refine a8.mk (by repeat first | exact True.intro | refine And.intro (by kernel_rfl) ?_) ?_ | refine DsE.mk [] rfl ?_ | refine ai.cu _ _ ?_ | ((with_reducible refine EqE.idT ?_); first | ((conv => arg 1; simp only [ak, List.toList_toArray, an, ae, aa, Int.toNat_natCast, Int.toNat_zero, Int.toNat_one, b4, b5, List.drop_zero, Nat.sub_zero, List.cons_append, List.nil_append]); refine EqE.mk _ rfl ?_) | refine EqE.mk _ rfl ?_) | ((with_reducible refine EqE.idP ?_); first | ((conv => arg 1; simp only [ak, List.toList_toArray, bz, b3]); refine EqE.mk _ rfl ?_) | refine EqE.mk _ rfl ?_) | ((with_reducible refine EqE.idN ?_); first | ((conv => arg 1; simp only [ak, List.toList_toArray, aa, bb, Int.toNat_natCast, Int.toNat_zero, Int.toNat_one, List.length_cons, List.length_nil, Nat.zero_add]); refine EqE.mk _ rfl ?_)) | ((with_reducible refine EqE.idW ?_); first | with_reducible refine EqE.mk _ (a7 _ (by omega)) ?_ | with_reducible refine EqE.mk _ (ar _ (by omega)) ?_ | refine EqE.mk _ (ah (by omega) (by omega)) ?_ | refine EqE.mk _ rfl ?_) | ((with_reducible refine EqE.idM ?_); refine EqE.mk _ rfl ?_) | ((with_reducible refine EqE.idI ?_); first | refine EqE.mk _ (max_eq _ _) ?_ | refine EqE.mk _ (min_eq _ _) ?_) | ((with_reducible refine EqE.idS ?_); first | (refine EqE.fP ?_; (conv => whnf); fail_if_success (show ag _ _)) | refine EqE.mk _ rfl ?_) | ((with_reducible refine EqE.idL ?_); first | refine EqE.mk _ (ax _ _ _ _ (by omega) (by omega) rfl) ?_ | refine EqE.mk _ rfl ?_) | refine EqE.mk _ rfl ?_ | refine Cd.ro ?_ | refine Cd.dc ?_ | refine Cd.ob ?_ | refine Cd.ol ?_ | refine Cd.mk ⟨rfl, rfl⟩ ?_ | refine Cd.os ?_ | refine Cd.mk ?_ ?_ | refine DsE.mk [_] rfl ?_ | refine DsE.mk [_, _, _] rfl ?_)
   rw [hp]; exact oo rfl rfl rfl
 ·rw [if_neg (fun q => h1 q.1)] at hp
  refine cl ay Tryd.func8 ?_
  repeat' ((conv => whnf); first | refine aw.data ?_ | with_reducible refine Br.bt fun _ => ?_ | with_reducible refine Br.bf fun _ => ?_ | refine cE s1 ?_ | refine rgE ?_ | refine Cd.mk rfl ?_ | refine Br.t ?_ | refine Br.f ?_ | with_reducible refine Br.eqd ?_ | with_reducible refine Br.eqb ?_ | with_reducible refine Br.dec (fun _ => ?_) (fun _ => ?_) | with_reducible refine Br.br (fun _ => ?_) (fun _ => ?_) | refine Br.mk (fun _ => ?_) (fun _ => ?_) | refine ao.mk _ rfl ?_ | refine And.intro (fun _ => ?_) ?_ | (refine TkE.fL ?_; (conv => whnf); fail_if_success (show ag _ _)) | refine TkE.mk _ rfl rfl ?_ | refine Res.mk ?_ | refine a8.mk (by repeat first | exact True.intro | refine And.intro (by kernel_rfl) ?_) ?_ | refine DsE.mk [] rfl ?_ | refine ai.cu _ _ ?_ | ((with_reducible refine EqE.idT ?_); first | ((conv => arg 1; simp only [ak, List.toList_toArray, an, ae, aa, Int.toNat_natCast, Int.toNat_zero, Int.toNat_one, b4, b5, List.drop_zero, Nat.sub_zero, List.cons_append, List.nil_append]); refine EqE.mk _ rfl ?_) | refine EqE.mk _ rfl ?_) | ((with_reducible refine EqE.idP ?_); first | ((conv => arg 1; simp only [ak, List.toList_toArray, bz, b3]); refine EqE.mk _ rfl ?_) | refine EqE.mk _ rfl ?_) | ((with_reducible refine EqE.idN ?_); first | ((conv => arg 1; simp only [ak, List.toList_toArray, aa, bb, Int.toNat_natCast, Int.toNat_zero, Int.toNat_one, List.length_cons, List.length_nil, Nat.zero_add]); refine EqE.mk _ rfl ?_)) | ((with_reducible refine EqE.idW ?_); first | with_reducible refine EqE.mk _ (a7 _ (by omega)) ?_ | with_reducible refine EqE.mk _ (ar _ (by omega)) ?_ | refine EqE.mk _ (ah (by omega) (by omega)) ?_ | refine EqE.mk _ rfl ?_) | ((with_reducible refine EqE.idM ?_); refine EqE.mk _ rfl ?_) | ((with_reducible refine EqE.idI ?_); first | refine EqE.mk _ (max_eq _ _) ?_ | refine EqE.mk _ (min_eq _ _) ?_) | ((with_reducible refine EqE.idS ?_); first | (refine EqE.fP ?_; (conv => whnf); fail_if_success (show ag _ _)) | refine EqE.mk _ rfl ?_) | ((with_reducible refine EqE.idL ?_); first | refine EqE.mk _ (ax _ _ _ _ (by omega) (by omega) rfl) ?_ | refine EqE.mk _ rfl ?_) | refine EqE.mk _ rfl ?_ | refine Cd.ro ?_ | refine Cd.dc ?_ | refine Cd.ob ?_ | refine Cd.ol ?_ | refine Cd.mk ⟨rfl, rfl⟩ ?_ | refine Cd.os ?_ | refine Cd.mk ?_ ?_ | refine DsE.mk [_] rfl ?_ | refine DsE.mk [_, _, _] rfl ?_)
  rw [hp]; exact oo rfl rfl rfl
end Go.Ev.Ar
