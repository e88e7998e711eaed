/- Contracts of the given functions, on data. Conditions stand in each theorem. -/
import Derived.Test.YtagjickjfjgfpaaGreatDoorGEvR
import Derived.Test.YtagjickjfjgfpaaGreatDoorGAvVv
import Derived.Test.YtagjickjfjgfpaaGreatDoorGAvDyL
import Derived.Test.YtagjickjfjgfpaaGreatDoorGAvVk
import Derived.Test.YtagjickjfjgfpaaGreatDoorGAvVo
import Derived.Test.YtagjickjfjgfpaaGreatDoorGAvQuot
import Derived.Test.YtagjickjfjgfpaaGreatDoorGAvVs
set_option linter.unusedSimpArgs false
set_option linter.unusedVariables false
namespace Go.Ev.Ar
open Go Go.Ev Go.Proofs
def azg : List D := [.int .i64 2, .int .i64 0, .int .i64 0, .int .i64 0, .bool false, .nil, .int .i64 0, .bool false, .nil, .int .i64 0]
def slR (es : List Nd) (d : Int) : D :=
 if d = -1 then .tup [.slice 1 azg, .bool true]
 else if gu (es.take (d + 1).toNat) = true then .tup [nsl (es.take (d + 1).toNat), .bool true] else .tup [.slice 0 [], .bool false]
theorem a13 (n : Nat) : jv (n : Int).toNat (ow [.int .i64]) = fa iC (List.replicate n 0) := by
 rw [al8]; unfold lj; simp
theorem a10 (xs : List Nd) : ∀ c ∈ List.flatMap Nd.cells xs, (A.d c).one = true := by
 intro c hc
 obtain ⟨x, _, hx⟩ := List.mem_flatMap.1 hc
 exact pn (l := x.cells) rfl c hx
theorem auv {ss : List Int} {n : Nat} {a : Int} (v : Int) (hl : ss.length = n) (h0 : 0 ≤ a) (h1 : a < n) : setAt (fa iC ss) (0 + a.toNat * 1) [.d (.int .i64 v)] = fa iC (ss.set a.toNat v) := by
 have := afg (f := iC) (k := 1) ai8 ss a.toNat v (by omega)
 rw [show ((a.toNat : Nat) : Int) = a by omega] at this; exact this
theorem auu {ss : List Int} {n : Nat} {a : Int} (hl : ss.length = n) (h0 : 0 ≤ a) (h1 : a < n) : 0 + a.toNat * 1 + 1 ≤ (fa iC ss).length := by rw [nn ai8]; omega
theorem a2m {bs : List Bool} {i : Nat} (h : i < bs.length) {v : Bool} (hv : bs.getD i false = v) : ((bs.flatMap bC).drop (((i : Nat) : Int).toNat * 1))[0]? = some (.bool v) := by
 rw [List.getElem?_drop, Int.toNat_natCast, Nat.mul_one, Nat.add_zero]
 have := atm bs i h
 rw [fa, List.getElem?_map, hv] at this
 cases g : (bs.flatMap bC)[i]? with
 | none => rw [g] at this; cases this
 | some c => rw [g] at this; cases this; rfl
theorem aze (xs : List Nd) (i : Nat) (h : i < xs.length) : (((xs.flatMap Nd.cells).drop ((i : Int).toNat * 10)).drop 0).take 10 = (xs.getD i Nd.nil).cells := di xs i h
theorem a3m {l : List D} {x : Nd} (h : (l.drop 0).take 10 = x.cells) : (l.drop 0)[0]? = some (.int .i64 x.k) := by
 have : ((l.drop 0).take 10)[0]? = some (.int .i64 x.k) := by rw [h]; rfl
 rw [List.getElem?_take] at this; exact this
theorem avp : ∀ (es : List Nd) (K : Nat), (es.flatMap Nd.cells).take (K * 10) = (es.take K).flatMap Nd.cells
 | _, 0 => by simp
 | [], _ + 1 => by simp
 | e :: es, K + 1 => by
  have l := Nd.len e
  rw [List.flatMap_cons, List.take_append, List.take_succ_cons, List.flatMap_cons, l, show (K + 1) * 10 - 10 = K * 10 by omega, avp es K, List.take_of_length_le (by omega)]
theorem ad9 (es : List Nd) (K : Nat) : D.slice ((K : Int) - 0).toNat (((es.flatMap Nd.cells).drop (0 + Int.toNat 0 * 10)).take (((K : Int) - 0).toNat * 10)) = D.slice (K : Int).toNat ((es.take K).flatMap Nd.cells) := by
 rw [show ((K : Int) - 0).toNat = K by omega, Int.toNat_natCast, ← avp]; rfl
structure ND (xs : List Nd) (i : Nat) : Prop where
 k : 1 ≤ (xs.getD i Nd.nil).k ∧ (xs.getD i Nd.nil).k ≤ 10
 a : 3 ≤ (xs.getD i Nd.nil).k → 0 ≤ (xs.getD i Nd.nil).a ∧ (xs.getD i Nd.nil).a < i
 b : 3 ≤ (xs.getD i Nd.nil).k → (xs.getD i Nd.nil).k ≤ 6 → 0 ≤ (xs.getD i Nd.nil).b ∧ (xs.getD i Nd.nil).b < i
 n : (xs.getD i Nd.nil).k = 7 → 0 ≤ (xs.getD i Nd.nil).n ∧ (xs.getD i Nd.nil).n ≤ 64
theorem ayp {xs : List Nd} {i : Nat} (h : k9 (xs.getD i Nd.nil) i = true) : ND xs i := by
 unfold k9 at h
 simp only [Bool.and_eq_true, Bool.or_eq_true, Bool.not_eq_true', decide_eq_true_eq, decide_eq_false_iff_not] at h
 obtain ⟨⟨⟨⟨h1, _⟩, h2⟩, h3⟩, h4⟩ := h
 refine ⟨h1, fun g => by omega, fun g g' => by omega, fun g => ?_⟩
 rw [if_pos g, decide_eq_true_eq] at h4; exact h4
set_option maxRecDepth 10000 in
set_option maxHeartbeats 16000000 in
theorem ao9 (xs : List Nd) (hl : ∀ x ∈ xs, Few x) (hx : gu xs = true) {es : List Nd} {d : Int} (hes : (slL xs xs.length).1 = es) (hd : (slL xs xs.length).2.getD (xs.length - 1) 0 = d) :
  Sim Tryz.prog G0 (slR es d).sc 58 [nsl xs] (slR es d) := by
 have hx0 := hx
 unfold gu at hx
 simp only [Bool.and_eq_true, decide_eq_true_eq, List.all_eq_true, List.mem_range] at hx
 obtain ⟨⟨n0, n40⟩, hall⟩ := hx
 have s0 := th xs (by omega) hl
 rw [hx0] at s0
 have nd : ∀ i, i < xs.length → ND xs i := fun i hi => ayp (hall i hi)
 have s1 := ard xs n0 (by omega) (fun i hi h3 => by
  have g := nd i hi
  have ga := g.a h3
  exact ⟨by omega, fun h6 => by have := g.b h3 h6; omega⟩)
 have inv := SI.all a09 n0 hl (fun i hi => (nd i hi).n)
 refine an (hs := rfl) af Tryz.func58 ?_
 repeat' ((conv => whnf); first | with_reducible refine ah.data ?_ | refine aa.mk _ _ (s0) ?_ | refine aa.mk _ _ (s1) ?_ | ((with_reducible show EqE (jv _ _) _); refine EqE.mk _ (a13 xs.length) ?_) | refine Cd.mk (a10 xs) ?_ | refine Cd.mk (show (List.flatMap Nd.cells xs).length = xs.length * 10 from ab2 Nd.len xs) ?_ | refine rgE ?_ | refine Cd.mk rfl ?_ | refine Br.f ?_ | refine EqE.mk _ rfl ?_ | refine Cd.ol ?_ | refine Cd.os ?_)
 refine ⟨[], [0, 4, 5, 21, 22, 23], [14, 16, 19], fun m ys h => ∃ (i : Nat) (es : List Nd) (ds : List Int), m = xs.length - i ∧ i ≤ xs.length ∧ slL xs i = (es, ds) ∧
   ys = [.d (nsl xs), .ptr 16 0, .own 19 0 xs.length 1, .d (bsl (akL xs xs.length) xs.length), .d (.int .i64 xs.length), .d (.int .i64 i)] ∧
   (h = [(19, false, fa iC ds), (16, false, [.own 14 0 es.length 10]), (14, false, fa Nd.cells es)] ∨ h = [(16, false, [.own 14 0 es.length 10]), (14, false, fa Nd.cells es), (19, false, fa iC ds)]),
  ⟨_, _, _, ⟨.inl rfl, rfl, rfl, by first | exact az _ _ _ _ _ _ (qh rfl (az _ _ _ _ _ _ rfl)) | skip⟩, 0, xs, List.replicate xs.length 0, rfl, by omega, rfl, rfl, .inl rfl⟩, ?_⟩
 rintro m ys h ⟨i, es, ds, rfl, hi, hs, rfl, hh⟩
 have I := inv i hi
 rw [hs] at I
 by_cases hlt : i < xs.length
 ·have g := nd i hlt
  have hnx : slL xs (i + 1) = slS (es, ds) i (xs.getD i Nd.nil) ((akL xs xs.length).getD i false) := by rw [slL, hs]
  have hpre : es.getD i Nd.nil = xs.getD i Nd.nil := by
   obtain ⟨t, e⟩ := I.pre
   dsimp only at e
   rw [e, List.getD_eq_getElem?_getD, List.getElem?_append_left hlt, List.getD_eq_getElem?_getD]
  have hle : xs.length ≤ es.length ∧ es.length ≤ xs.length + 12 * i := by
   obtain ⟨t, e⟩ := I.pre
   dsimp only at e
   exact ⟨by rw [e, List.length_append]; omega, I.len⟩
  have hdl : ds.length = xs.length := I.dl
  have S1 : setAt (fa iC ds) (0 + ((i : Nat) : Int).toNat * 1) [.d (.int .i64 (-1))] = fa iC (ds.set i (-1)) := auv (a := (i : Int)) (-1) hdl (by omega) (by omega)
  have E1 : 0 + ((i : Nat) : Int).toNat * 1 + 1 ≤ (fa iC ds).length := auu (a := (i : Int)) hdl (by omega) (by omega)
  have hbl := ad0 xs xs.length
  have T1 := aze xs i hlt
  obtain ⟨bs, hbs⟩ : ∃ bs, akL xs xs.length = bs := ⟨_, rfl⟩
  obtain ⟨t, ht⟩ : ∃ t, bs.getD i false = t := ⟨_, rfl⟩
  rw [hbs] at hbl hnx
  simp only [hbs]
  rw [ht] at hnx
  have L1 := a2m (bs := bs) (i := i) (by omega) ht
  have B1 : ((0 : Int) ≤ (i : Int) ∧ (i : Int) < (xs.length : Int)) ∧ ((i : Nat) : Int).toNat * 1 < (bs.flatMap bC).length := by rw [ab2 aip]; omega
  have lxs : (ds.set i (-1)).length = xs.length := by rw [List.length_set, hdl]
  obtain ⟨D', hD⟩ : ∃ D', ds.set i (-1) = D' := ⟨_, rfl⟩
  rw [hD] at S1 lxs
  cases t
  ·have hnx' : slL xs (i + 1) = (es, D') := by rw [hnx]; unfold slS; rw [if_neg (by simp)]; exact congrArg _ hD
   rcases hh with rfl | rfl
   ·repeat' ((conv => whnf); first | ((with_reducible refine Br.jm ?hpp ?_); case hpp => first | omega | (dsimp only; omega)) | refine Cd.mk B1 ?_ | ((with_reducible show ai (List.drop _ (List.flatMap bC bs)) _ _); refine ai.mk _ L1 ?_) | refine Cd.mk E1 ?_ | refine ao.go _ _ ⟨.inl rfl, rfl, rfl, by first | exact az _ _ _ _ _ _ (qh rfl (az _ _ _ _ _ _ rfl)) | exact qh rfl (az _ _ _ _ _ _ (az _ _ _ _ _ _ rfl))⟩ ?_ | refine rgE ?_ | refine Cd.mk rfl ?_ | refine Br.f ?_ | ((with_reducible refine EqE.idW ?_); refine EqE.mk ((i : Int) + 1) (ak (by omega) (by omega)) ?_) | ((with_reducible refine EqE.idS ?_); ((with_reducible show EqE (setAt (fa iC ds) _ _) _); refine EqE.mk _ S1 ?_)) | refine Cd.os ?_)
    exact ⟨_, ⟨i + 1, es, D', rfl, by omega, hnx', rfl, .inl rfl⟩, by omega⟩
   ·repeat' ((conv => whnf); first | ((with_reducible refine Br.jm ?hpp ?_); case hpp => first | omega | (dsimp only; omega)) | refine Cd.mk B1 ?_ | ((with_reducible show ai (List.drop _ (List.flatMap bC bs)) _ _); refine ai.mk _ L1 ?_) | refine Cd.mk E1 ?_ | refine ao.go _ _ ⟨.inl rfl, rfl, rfl, by first | exact az _ _ _ _ _ _ (qh rfl (az _ _ _ _ _ _ rfl)) | exact qh rfl (az _ _ _ _ _ _ (az _ _ _ _ _ _ rfl))⟩ ?_ | refine rgE ?_ | refine Cd.mk rfl ?_ | refine Br.f ?_ | ((with_reducible refine EqE.idW ?_); refine EqE.mk ((i : Int) + 1) (ak (by omega) (by omega)) ?_) | ((with_reducible refine EqE.idS ?_); ((with_reducible show EqE (setAt (fa iC ds) _ _) _); refine EqE.mk _ S1 ?_)) | refine Cd.os ?_)
    exact ⟨_, ⟨i + 1, es, D', rfl, by omega, hnx', rfl, .inr rfl⟩, by omega⟩
  ·have gk := g.k
   have ga := g.a
   have gb := g.b
   have gn := g.n
   obtain ⟨x, hx⟩ : ∃ x, xs.getD i Nd.nil = x := ⟨_, rfl⟩
   rw [hx] at gk ga gb gn hnx hpre T1
   have K1 := a3m T1
   by_cases k2 : x.k = 2
   ·have hnx' : slL xs (i + 1) = (es, D') := by rw [hnx]; unfold slS; rw [if_neg (fun h => h.2 k2)]; exact congrArg _ hD
    clear hpre hnx hx
    obtain ⟨k, a, b, n', ⟨b1, l1, e1, c1, k1, f1⟩⟩ := x
    dsimp only at k2
    rcases hh with rfl | rfl
    ·repeat' ((conv => whnf); first | with_reducible refine Br.acf (fun h => absurd k2 h) (fun _ => ?_) | ((with_reducible refine Br.jm ?hpp ?_); case hpp => first | omega | (dsimp only; omega)) | refine Cd.mk B1 ?_ | ((with_reducible show ai (List.drop _ (List.flatMap bC bs)) _ _); refine ai.mk _ L1 ?_) | refine Cd.mk E1 ?_ | refine ao.go _ _ ⟨.inl rfl, rfl, rfl, by first | exact az _ _ _ _ _ _ (qh rfl (az _ _ _ _ _ _ rfl)) | exact qh rfl (az _ _ _ _ _ _ (az _ _ _ _ _ _ rfl))⟩ ?_ | refine Cd.mk (bj xs _ (by omega)) ?_ | ((with_reducible show ai (List.drop _ (List.drop _ (List.flatMap Nd.cells _))) _ _); refine ai.mk _ K1 ?_) | refine rgE ?_ | refine Cd.mk rfl ?_ | refine Br.t ?_ | ((with_reducible refine EqE.idW ?_); refine EqE.mk ((i : Int) + 1) (ak (by omega) (by omega)) ?_) | ((with_reducible refine EqE.idS ?_); ((with_reducible show EqE (setAt (fa iC ds) _ _) _); refine EqE.mk _ S1 ?_)) | refine Cd.os ?_)
     exact ⟨_, ⟨i + 1, es, D', rfl, by omega, hnx', rfl, .inl rfl⟩, by omega⟩
    ·repeat' ((conv => whnf); first | with_reducible refine Br.acf (fun h => absurd k2 h) (fun _ => ?_) | ((with_reducible refine Br.jm ?hpp ?_); case hpp => first | omega | (dsimp only; omega)) | refine Cd.mk B1 ?_ | ((with_reducible show ai (List.drop _ (List.flatMap bC bs)) _ _); refine ai.mk _ L1 ?_) | refine Cd.mk E1 ?_ | refine ao.go _ _ ⟨.inl rfl, rfl, rfl, by first | exact az _ _ _ _ _ _ (qh rfl (az _ _ _ _ _ _ rfl)) | exact qh rfl (az _ _ _ _ _ _ (az _ _ _ _ _ _ rfl))⟩ ?_ | refine Cd.mk (bj xs _ (by omega)) ?_ | ((with_reducible show ai (List.drop _ (List.drop _ (List.flatMap Nd.cells _))) _ _); refine ai.mk _ K1 ?_) | refine rgE ?_ | refine Cd.mk rfl ?_ | refine Br.t ?_ | ((with_reducible refine EqE.idW ?_); refine EqE.mk ((i : Int) + 1) (ak (by omega) (by omega)) ?_) | ((with_reducible refine EqE.idS ?_); ((with_reducible show EqE (setAt (fa iC ds) _ _) _); refine EqE.mk _ S1 ?_)) | refine Cd.os ?_)
     exact ⟨_, ⟨i + 1, es, D', rfl, by omega, hnx', rfl, .inr rfl⟩, by omega⟩
   ·have sl := ax4 (es := es) (ds := D') (i := i) (n := x) (by omega) (by omega) hpre ⟨gk.1, gk.2, k2⟩ (fun h => by have := ga h; omega) (fun h h' => by have := gb h h'; omega) gn
    have hnx' : slL xs (i + 1) = ((slF es i x D').1, D'.set i (slF es i x D').2) := by rw [hnx]; unfold slS; rw [if_pos ⟨rfl, k2⟩]; dsimp only; rw [hD]
    obtain ⟨r, hr⟩ : ∃ r, slF es i x D' = r := ⟨_, rfl⟩
    rw [hr] at sl hnx'
    have sl2 : jl Tryz.prog G0 108 [.ptr 1000000 0, .d (.int .i64 i), .own 1000001 0 xs.length 1] (bS es D') (.d (.int .i64 r.2)) (bS r.1 D') := by rw [← lxs]; exact sl
    have S2 : setAt (fa iC D') (0 + ((i : Nat) : Int).toNat * 1) [.d (.int .i64 r.2)] = fa iC (D'.set i r.2) := auv (a := (i : Int)) r.2 lxs (by omega) (by omega)
    have E2 : 0 + ((i : Nat) : Int).toNat * 1 + 1 ≤ (fa iC D').length := auu (a := (i : Int)) lxs (by omega) (by omega)
    clear hpre hnx hx hr sl
    obtain ⟨k, a, b, n', ⟨b1, l1, e1, c1, k1, f1⟩⟩ := x
    dsimp only at k2
    rcases hh with rfl | rfl
    ·repeat' ((conv => whnf); first | refine ah.own (jr.au (sl2) [(1000000, 16), (2000000, 14), (1000001, 19)] [] (.d (.int .i64 r.2)) [(16, false, [.own 14 0 r.1.length 10]), (14, false, fa Nd.cells r.1), (19, false, fa iC D')] [] ?_) | with_reducible refine Br.acf (fun _ => ?_) (fun h => absurd h k2) | ((with_reducible refine Br.jm ?hpp ?_); case hpp => first | omega | (dsimp only; omega)) | refine Cd.mk B1 ?_ | ((with_reducible show ai (List.drop _ (List.flatMap bC bs)) _ _); refine ai.mk _ L1 ?_) | refine Cd.mk E1 ?_ | refine ao.go _ _ ⟨.inl rfl, rfl, rfl, by first | exact az _ _ _ _ _ _ (qh rfl (az _ _ _ _ _ _ rfl)) | exact qh rfl (az _ _ _ _ _ _ (az _ _ _ _ _ _ rfl))⟩ ?_ | refine Cd.mk (bj xs _ (by omega)) ?_ | ((with_reducible show ai (List.drop _ (List.drop _ (List.flatMap Nd.cells _))) _ _); refine ai.mk _ K1 ?_) | refine Cd.mk E2 ?_ | refine rgE ?_ | refine Cd.mk rfl ?_ | refine Br.t ?_ | ((with_reducible refine EqE.idW ?_); refine EqE.mk ((i : Int) + 1) (ak (by omega) (by omega)) ?_) | ((with_reducible refine EqE.idS ?_); first | ((with_reducible show EqE (setAt (fa iC ds) _ _) _); refine EqE.mk _ S1 ?_) | ((with_reducible show EqE (setAt (fa iC D') _ _) _); refine EqE.mk _ S2 ?_)) | refine Cd.os ?_)
     exact ⟨_, ⟨i + 1, r.1, D'.set i r.2, rfl, by omega, hnx', rfl, .inr rfl⟩, by omega⟩
    ·repeat' ((conv => whnf); first | refine ah.own (jr.au (sl2) [(1000000, 16), (2000000, 14), (1000001, 19)] [] (.d (.int .i64 r.2)) [(16, false, [.own 14 0 r.1.length 10]), (14, false, fa Nd.cells r.1), (19, false, fa iC D')] [] ?_) | with_reducible refine Br.acf (fun _ => ?_) (fun h => absurd h k2) | ((with_reducible refine Br.jm ?hpp ?_); case hpp => first | omega | (dsimp only; omega)) | refine Cd.mk B1 ?_ | ((with_reducible show ai (List.drop _ (List.flatMap bC bs)) _ _); refine ai.mk _ L1 ?_) | refine Cd.mk E1 ?_ | refine ao.go _ _ ⟨.inl rfl, rfl, rfl, by first | exact az _ _ _ _ _ _ (qh rfl (az _ _ _ _ _ _ rfl)) | exact qh rfl (az _ _ _ _ _ _ (az _ _ _ _ _ _ rfl))⟩ ?_ | refine Cd.mk (bj xs _ (by omega)) ?_ | ((with_reducible show ai (List.drop _ (List.drop _ (List.flatMap Nd.cells _))) _ _); refine ai.mk _ K1 ?_) | refine Cd.mk E2 ?_ | refine rgE ?_ | refine Cd.mk rfl ?_ | refine Br.t ?_ | ((with_reducible refine EqE.idW ?_); refine EqE.mk ((i : Int) + 1) (ak (by omega) (by omega)) ?_) | ((with_reducible refine EqE.idS ?_); first | ((with_reducible show EqE (setAt (fa iC ds) _ _) _); refine EqE.mk _ S1 ?_) | ((with_reducible show EqE (setAt (fa iC D') _ _) _); refine EqE.mk _ S2 ?_)) | refine Cd.os ?_)
     exact ⟨_, ⟨i + 1, r.1, D'.set i r.2, rfl, by omega, hnx', rfl, .inr rfl⟩, by omega⟩
 ·obtain rfl : i = xs.length := by omega
  rw [hs] at hes hd
  dsimp only at hes hd
  subst hes
  have hr := I.rng (xs.length - 1)
  dsimp only at hr
  rw [hd] at hr
  have hlen : es.length ≤ xs.length + 12 * xs.length := I.len
  have LD : (fa iC ds)[0 + ((xs.length : Int) - 1).toNat * 1]? = some (.d (.int .i64 d)) := ta (by omega) (by have := I.dl; dsimp only at this; omega) (by rw [show ((xs.length : Int) - 1).toNat = xs.length - 1 by omega]; exact hd)
  by_cases d1 : d = -1
  ·subst d1
   rw [show slR es (-1) = .tup [.slice 1 azg, .bool true] from rfl]
   rcases hh with rfl | rfl
   ·repeat' ((conv => whnf); first | ((with_reducible refine Br.jm ?hpp ?_); case hpp => first | omega | (dsimp only; omega)) | ((with_reducible refine Br.dq ?hpp ?_); case hpp => first | omega | (dsimp only; omega)) | ((with_reducible show ai (fa iC ds) _ _); refine ai.mk _ LD ?_) | refine DsE.mk [_, _, _, _, _, _, _, _, _, _] rfl ?_ | refine rgE ?_ | refine Cd.mk rfl ?_ | refine Res.mk ?_ | ((with_reducible refine EqE.idW ?_); refine EqE.mk ((xs.length : Int) - 1) (ak (by omega) (by omega)) ?_) | ((with_reducible refine EqE.idL ?_); refine EqE.mk _ rfl ?_) | refine Cd.ol ?_ | refine Cd.os ?_)
    all_goals rfl
   ·repeat' ((conv => whnf); first | ((with_reducible refine Br.jm ?hpp ?_); case hpp => first | omega | (dsimp only; omega)) | ((with_reducible refine Br.dq ?hpp ?_); case hpp => first | omega | (dsimp only; omega)) | ((with_reducible show ai (fa iC ds) _ _); refine ai.mk _ LD ?_) | refine DsE.mk [_, _, _, _, _, _, _, _, _, _] rfl ?_ | refine rgE ?_ | refine Cd.mk rfl ?_ | refine Res.mk ?_ | ((with_reducible refine EqE.idW ?_); refine EqE.mk ((xs.length : Int) - 1) (ak (by omega) (by omega)) ?_) | ((with_reducible refine EqE.idL ?_); refine EqE.mk _ rfl ?_) | refine Cd.ol ?_ | refine Cd.os ?_)
    all_goals rfl
  ·have kk : 0 ≤ d + 1 ∧ d + 1 ≤ es.length := by omega
   obtain ⟨K, hK⟩ : ∃ K : Nat, (K : Int) = d + 1 := ⟨(d + 1).toNat, by omega⟩
   have s2 := th (es.take K) (by rw [List.length_take]; omega) (fun x hx => I.few x (List.mem_of_mem_take hx))
   have hKt : (d + 1).toNat = K := by omega
   unfold slR
   rw [if_neg d1, hKt]
   obtain ⟨t, ht⟩ : ∃ t, gu (es.take K) = t := ⟨_, rfl⟩
   rw [ht] at s2 ⊢
   have hn2 : nsl (es.take K) = .slice (K : Int).toNat ((es.take K).flatMap Nd.cells) := by unfold nsl; rw [List.length_take, Nat.min_eq_left (by omega), Int.toNat_natCast]
   rw [hn2] at s2 ⊢
   cases t
   ·rw [if_neg (by decide)]
    rcases hh with rfl | rfl
    ·repeat' ((conv => whnf); first | with_reducible refine ah.data ?_ | ((with_reducible refine Br.dq ?hpp ?_); case hpp => first | omega | (dsimp only; omega)) | ((with_reducible show ai (fa iC ds) _ _); refine ai.mk _ LD ?_) | ((with_reducible show DsE (fa Nd.cells _) _); refine DsE.mk (es.flatMap Nd.cells) rfl ?_) | ((with_reducible show EqE (D.slice _ _) _); refine EqE.mk _ (ad9 es K) ?_) | refine aa.mk _ _ (s2) ?_ | refine rgE ?_ | refine Cd.mk rfl ?_ | refine Br.t ?_ | refine ai.mk _ rfl ?_ | refine Res.mk ?_ | ((with_reducible refine EqE.idW ?_); first | refine EqE.mk ((xs.length : Int) - 1) (ak (by omega) (by omega)) ?_ | refine EqE.mk (K : Int) ((ak (by omega) (by omega)).trans hK.symm) ?_) | refine Cd.os ?_)
     all_goals rfl
    ·repeat' ((conv => whnf); first | with_reducible refine ah.data ?_ | ((with_reducible refine Br.dq ?hpp ?_); case hpp => first | omega | (dsimp only; omega)) | ((with_reducible show ai (fa iC ds) _ _); refine ai.mk _ LD ?_) | ((with_reducible show DsE (fa Nd.cells _) _); refine DsE.mk (es.flatMap Nd.cells) rfl ?_) | ((with_reducible show EqE (D.slice _ _) _); refine EqE.mk _ (ad9 es K) ?_) | refine aa.mk _ _ (s2) ?_ | refine rgE ?_ | refine Cd.mk rfl ?_ | refine Br.t ?_ | refine ai.mk _ rfl ?_ | refine Res.mk ?_ | ((with_reducible refine EqE.idW ?_); first | refine EqE.mk ((xs.length : Int) - 1) (ak (by omega) (by omega)) ?_ | refine EqE.mk (K : Int) ((ak (by omega) (by omega)).trans hK.symm) ?_) | refine Cd.os ?_)
     all_goals rfl
   ·rw [if_pos rfl]
    rcases hh with rfl | rfl
    ·repeat' ((conv => whnf); first | with_reducible refine ah.data ?_ | ((with_reducible refine Br.dq ?hpp ?_); case hpp => first | omega | (dsimp only; omega)) | ((with_reducible show ai (fa iC ds) _ _); refine ai.mk _ LD ?_) | ((with_reducible show DsE (fa Nd.cells _) _); refine DsE.mk (es.flatMap Nd.cells) rfl ?_) | ((with_reducible show EqE (D.slice _ _) _); refine EqE.mk _ (ad9 es K) ?_) | refine aa.mk _ _ (s2) ?_ | refine rgE ?_ | refine Cd.mk rfl ?_ | refine Br.f ?_ | refine ai.mk _ rfl ?_ | refine Res.mk ?_ | ((with_reducible refine EqE.idW ?_); first | refine EqE.mk ((xs.length : Int) - 1) (ak (by omega) (by omega)) ?_ | refine EqE.mk (K : Int) ((ak (by omega) (by omega)).trans hK.symm) ?_) | refine Cd.os ?_)
     all_goals rfl
    ·repeat' ((conv => whnf); first | with_reducible refine ah.data ?_ | ((with_reducible refine Br.dq ?hpp ?_); case hpp => first | omega | (dsimp only; omega)) | ((with_reducible show ai (fa iC ds) _ _); refine ai.mk _ LD ?_) | ((with_reducible show DsE (fa Nd.cells _) _); refine DsE.mk (es.flatMap Nd.cells) rfl ?_) | ((with_reducible show EqE (D.slice _ _) _); refine EqE.mk _ (ad9 es K) ?_) | refine aa.mk _ _ (s2) ?_ | refine rgE ?_ | refine Cd.mk rfl ?_ | refine Br.f ?_ | refine ai.mk _ rfl ?_ | refine Res.mk ?_ | ((with_reducible refine EqE.idW ?_); first | refine EqE.mk ((xs.length : Int) - 1) (ak (by omega) (by omega)) ?_ | refine EqE.mk (K : Int) ((ak (by omega) (by omega)).trans hK.symm) ?_) | refine Cd.os ?_)
     all_goals rfl
end Go.Ev.Ar

namespace Go.Ev.Ar
open Go Go.Ev Go.Proofs
theorem aw9 {P : Program} {G : bb} {fr : Bool} {f : FuncId} {args : List D} {r r' : D} (h : Sim P G fr f args r) (k : ∀ S w v, DR S w r v → DR S w r' v) : Sim P G fr f args r' := by
 refine ⟨h.can, fun S w vs a b c => Calls.mono (h.run S w vs a b c) ?_⟩
 rintro e w' ⟨v, he, hb, S', hS, hr⟩
 exact ⟨v, he, hb, S', hS, k S' w' v hr⟩
theorem a0x {S : Imm} {w : World} {v : Value} (h : DR S w .nil v) : DR S w (.slice 0 []) v := atd (x := .nil) h
def a1u : D → D
 | .nil => .slice 0 []
 | x => x
theorem aik {S : Imm} {w : World} {b : Nat} : ∀ (l : List D) (o : Nat), DRL S w b o l → DRL S w b o (l.map a1u)
 | [], _, _ => trivial
 | x :: l, o, h => by
  simp only [DRL, List.map_cons] at h ⊢
  obtain ⟨h1, ⟨u, h2, h3⟩, h4⟩ := h
  refine ⟨h1, ⟨u, h2, ?_⟩, aik l _ h4⟩
  cases x <;> first | exact a0x h3 | exact h3
theorem avv {S : Imm} {w : World} {v : Value} (h : DR S w (.tup [.slice 1 azg, .bool true]) v) : DR S w (.tup [nsl [⟨2, 0, 0, 0, RC.nil⟩], .bool true]) v := by
 simp only [DR, DRs] at h ⊢
 obtain ⟨vs, hv, u, us, e1, ⟨a, c, hu, hc, hcells⟩, rest⟩ := h
 refine ⟨vs, hv, u, us, e1, ?_, rest⟩
 show DR S w (.slice 1 _) u
 simp only [DR]
 refine ⟨a, c, hu, hc, ?_⟩
 rcases hcells with h | ⟨b, o, ha, hL⟩
 ·cases h
 ·refine .inr ⟨b, o, ha, ?_⟩
  show DRL S w b o [.int .i64 2, .int .i64 0, .int .i64 0, .int .i64 0, .bool false, .slice 0 [], .int .i64 0, .bool false, .slice 0 [], .int .i64 0]
  exact aik azg o hL
def slT (es : List Nd) (d : Int) : D :=
 if d = -1 then .tup [nsl [⟨2, 0, 0, 0, RC.nil⟩], .bool true]
 else if gu (es.take (d + 1).toNat) = true then .tup [nsl (es.take (d + 1).toNat), .bool true] else .tup [.slice 0 [], .bool false]
theorem as7 (xs : List Nd) (hl : ∀ x ∈ xs, Few x) (hx : gu xs = true) {es : List Nd} {d : Int} (hes : (slL xs xs.length).1 = es) (hd : (slL xs xs.length).2.getD (xs.length - 1) 0 = d) :
  Sim Tryz.prog G0 (slR es d).sc 58 [nsl xs] (slT es d) := by
 refine aw9 (ao9 xs hl hx hes hd) fun S w v h => ?_
 unfold slR at h
 unfold slT
 split
 ·rename_i g
  rw [if_pos g] at h
  exact avv h
 ·rename_i g
  rw [if_neg g] at h
  exact h
end Go.Ev.Ar

namespace Go.Ev.Ar
open Go Go.Ev Go.Proofs
def bxD (a : Cq) (h : Dyadic) : D := .agg [.bool (a7 (aj a.1)), sl (ofN (aj a.1).natAbs), .int .i64 (ar a.1), .bool (a7 (aj a.2)), sl (ofN (aj a.2).natAbs), .int .i64 (ar a.2), .bool (a7 (aj h)), sl (ofN (aj h).natAbs), .int .i64 (ar h)]
inductive BxR : D → Cq → Dyadic → Prop where
 | mk {b : Bool} {l : List UInt32} {e : Int} {c : Bool} {k : List UInt32} {f : Int} {b' : Bool} {l' : List UInt32} {e' : Int} {z : Cq} {h : Dyadic}
  (h1 : CxR (.agg [.bool b, sl l, .int .i64 e, .bool c, sl k, .int .i64 f]) z) (h2 : DyR (.agg [.bool b', sl l', .int .i64 e']) h) :
  BxR (.agg [.bool b, sl l, .int .i64 e, .bool c, sl k, .int .i64 f, .bool b', sl l', .int .i64 e']) z h
theorem BxR.of {a : Cq} {h : Dyadic} (ha : Hc 1048576 a) (hh : Ht 1048576 h) : BxR (bxD a h) a h := .mk (.of ha) (.of hh)
def hf (h : Dyadic) : Dyadic := if h = 0 then dof 1 0 else ej h
end Go.Ev.Ar

namespace Go.Ev.Ar
open Go Go.Ev Go.Proofs
theorem aoj {a b : Cq} {t : Bool} (ha : Hc 50000 a) (hb : Hc 50000 b) (h : decide (a = b) = t) : Sim Tryz.prog G0 true 49 [cxD a, cxD b] (.bool t) := by
 subst h
 refine an af Tryz.func49 ?_
 repeat' ((conv => whnf); first | with_reducible refine ah.data ?_ | refine aa.mk _ _ (vr ha.1 hb.1) ?_ | refine aa.mk _ _ (vr ha.2 hb.2) ?_ | refine rgE ?_ | refine Cd.mk rfl ?_ | refine Br.t ?_ | refine Br.f ?_ | with_reducible refine Br.dec (fun _ => ?_) (fun _ => ?_) | (refine TkE.fL ?_; (conv => whnf); fail_if_success (show ae _ _)) | refine Res.mk ?_)
 ·rename_i h
  refine congrArg D.bool (decide_eq_decide.2 ?_)
  rw [Prod.ext_iff]; exact ⟨fun g => g.2, fun g => ⟨h, g⟩⟩
 ·rename_i h
  exact congrArg D.bool (decide_eq_false fun g => h (by rw [g]))
end Go.Ev.Ar

namespace Go.Ev.Ar
open Go Go.Ev Go.Proofs
theorem dz {r : RC} (h : r.few 2 40 = true) : CxR (.agg r.cells) r.val ∧ CxF (.agg r.cells) r.val ∧ Hc 104 r.val := ⟨RC.cxR 40 (by decide) (by decide) (by decide) h, ax7 40 (by decide) (by decide) (by decide) h, RC.hc 40 104 (by decide) (by decide) h⟩
abbrev VX (xs : List Nd) (rz : RC) : Prop := Sim Tryz.prog G0 true 8 [nsl xs, .agg rz.cells] (.bool true)
abbrev KN : Prop := Sim Tryz.prog G0 true 43 [] (.bool true)
set_option maxRecDepth 10000 in
set_option maxHeartbeats 8000000 in
theorem apa (kn : KN) (xs : List Nd) (rz : RC) (hn : xs.length < 2^62) (h : ns xs = false ∨ rz.few 2 40 = false ∨ adr xs = true) : VX xs rz := by
  have s1 := xb xs hn
  have s2 := fo rz
  obtain ⟨bz, lz, ez, cz, kz, fz⟩ := rz
  cases h1 : ns xs
  · rw [h1] at s1
    refine an af Tryz.func8 ?_
    repeat' ((conv => whnf); first | with_reducible refine ah.data ?_ | refine aa.mk _ _ (kn) ?_ | refine aa.mk _ _ (s1) ?_ | refine rgE ?_ | refine Cd.mk rfl ?_ | refine Br.t ?_ | refine Br.f ?_ | refine Res.mk ?_)
    all_goals rfl
  · have h45 : xs.length ≤ 45 := by
      unfold ns at h1
      simp only [Bool.and_eq_true, decide_eq_true_eq] at h1; exact h1.2
    have s3 := aai xs h45
    rw [h1] at s1
    cases h2 : (⟨bz, lz, ez, cz, kz, fz⟩ : RC).few 2 40
    · rw [h2] at s2
      refine an af Tryz.func8 ?_
      repeat' ((conv => whnf); first | with_reducible refine ah.data ?_ | refine aa.mk _ _ (kn) ?_ | refine aa.mk _ _ (s1) ?_ | refine aa.mk _ _ (s2) ?_ | refine rgE ?_ | refine Cd.mk rfl ?_ | refine Br.t ?_ | refine Br.f ?_ | (refine TkE.fL ?_; (conv => whnf); fail_if_success (show ae _ _)) | refine Res.mk ?_)
      all_goals rfl
    · rw [h2] at s2
      have h3 : adr xs = true := by
        rcases h with h | h | h
        · rw [h1] at h; cases h
        · rw [h2] at h; cases h
        · exact h
      rw [h3] at s3
      refine an af Tryz.func8 ?_
      repeat' ((conv => whnf); first | with_reducible refine ah.data ?_ | refine aa.mk _ _ (kn) ?_ | refine aa.mk _ _ (s1) ?_ | refine aa.mk _ _ (s2) ?_ | refine aa.mk _ _ (s3) ?_ | refine rgE ?_ | refine Cd.mk rfl ?_ | refine Br.t ?_ | refine Br.f ?_ | (refine TkE.fL ?_; (conv => whnf); fail_if_success (show ae _ _)) | refine Res.mk ?_)
      all_goals rfl
set_option maxRecDepth 10000 in
set_option maxHeartbeats 8000000 in
theorem aq7 (kn : KN) (xs : List Nd) (rz : RC) (hn : xs.length < 2^62) (h1 : ns xs = true) (h2 : rz.few 2 40 = true) (h3 : adr xs = false)
  (e1 : Sim Tryz.prog G0 false 47 [nsl xs, .agg rz.cells] (exR none)) (e2 : Sim Tryz.prog G0 false 48 [nsl xs, .agg rz.cells] (arq none)) : VX xs rz := by
 have s1 := xb xs hn
 have s2 := fo rz
 have h45 : xs.length ≤ 45 := by
  have h1 := h1
  unfold ns at h1
  simp only [Bool.and_eq_true, decide_eq_true_eq] at h1; exact h1.2
 have s3 := aai xs h45
 have z1 : Sim Tryz.prog G0 true 49 [cxD (0, 0), cxD (0, 0)] (.bool true) := aoj (Hc.zero _) (Hc.zero _) (decide_eq_true rfl)
 rw [h1] at s1
 rw [h2] at s2
 rw [h3] at s3
 obtain ⟨bz, lz, ez, cz, kz, fz⟩ := rz
 unfold exR at e1
 dsimp only at e1
 rw [← wu] at e1 z1
 refine an af Tryz.func8 ?_
 repeat' ((conv => whnf); first | with_reducible refine ah.data ?_ | refine aa.mk _ _ (kn) ?_ | refine aa.mk _ _ (s1) ?_ | refine aa.mk _ _ (s2) ?_ | refine aa.mk _ _ (s3) ?_ | refine aa.mk _ _ (e1) ?_ | refine aa.mk _ _ (e2) ?_ | refine aa.mk _ _ (z1) ?_ | refine rgE ?_ | refine Cd.mk rfl ?_ | refine Br.t ?_ | refine Br.f ?_ | refine ai.mk _ rfl ?_ | (refine TkE.fL ?_; (conv => whnf); fail_if_success (show ae _ _)) | refine Res.mk ?_ | ((with_reducible refine EqE.idS ?_); (refine EqE.fP ?_; (conv => whnf); fail_if_success (show ae _ _))) | refine Cd.ol ?_)
 all_goals rfl
set_option maxRecDepth 10000 in
set_option maxHeartbeats 8000000 in
theorem a0b (kn : KN) (xs : List Nd) (rz : RC) (hn : xs.length < 2^62) (h1 : ns xs = true) (h2 : rz.few 2 40 = true) (h3 : adr xs = false) {p q : Rq} (hp : Hr 9000 p) (hq : Hr 9000 q) (p0 : p.2 ≠ (0, 0)) (ha : am6 p q = true)
  (e1 : Sim Tryz.prog G0 false 47 [nsl xs, .agg rz.cells] (.tup [cxD p.1, cxD p.2, .bool true])) (e2 : Sim Tryz.prog G0 false 48 [nsl xs, .agg rz.cells] (.tup [rqD q, .bool true])) : VX xs rz := by
 have s1 := xb xs hn
 have s2 := fo rz
 have h45 : xs.length ≤ 45 := by
  have h1 := h1
  unfold ns at h1
  simp only [Bool.and_eq_true, decide_eq_true_eq] at h1; exact h1.2
 have s3 := aai xs h45
 have z1 : Sim Tryz.prog G0 true 50 [cxD p.2] (.bool false) := eu (hp.2.mono (by decide)) (decide_eq_false p0)
 have a1 := aco hp hq ha
 rw [h1] at s1
 rw [h2] at s2
 rw [h3] at s3
 obtain ⟨bz, lz, ez, cz, kz, fz⟩ := rz
 obtain ⟨⟨p1, p2⟩, ⟨p3, p4⟩⟩ := p
 obtain ⟨⟨q1, q2⟩, ⟨q3, q4⟩⟩ := q
 refine an af Tryz.func8 ?_
 repeat' ((conv => whnf); first | with_reducible refine ah.data ?_ | refine aa.mk _ _ (kn) ?_ | refine aa.mk _ _ (s1) ?_ | refine aa.mk _ _ (s2) ?_ | refine aa.mk _ _ (s3) ?_ | refine aa.mk _ _ (e1) ?_ | refine aa.mk _ _ (e2) ?_ | refine aa.mk _ _ (z1) ?_ | refine aa.mk _ _ (a1) ?_ | refine rgE ?_ | refine Cd.mk rfl ?_ | refine Br.t ?_ | refine Br.f ?_ | refine ai.mk _ rfl ?_ | (refine TkE.fL ?_; (conv => whnf); fail_if_success (show ae _ _)) | refine Res.mk ?_ | ((with_reducible refine EqE.idS ?_); (refine EqE.fP ?_; (conv => whnf); fail_if_success (show ae _ _))) | refine Cd.ol ?_)
 all_goals rfl
end Go.Ev.Ar

namespace Go.Ev.Ar
open Go Go.Ev Go.Proofs
theorem apq {xs : List Nd} {z : Cq} (hx : ∀ i, i < xs.length → k9 (xs.getD i Nd.nil) i = true) (hz : Hc 104 z) (hc : ∀ i, i < xs.length → Hc 104 (xs.getD i Nd.nil).r.val) (hb : ∀ i, i < xs.length → ik (szL xs i) (xs.getD i Nd.nil) i ≤ 60) : ∀ i, i ≤ xs.length → ∀ vs, exL xs z i = some vs → vs.length = i ∧ Fit (szL xs i) vs
 | 0, _, vs, h => by cases h; exact ⟨rfl, Fit.nil⟩
 | i + 1, hi, vs, h => by
  unfold exL at h
  rw [Option.bind_eq_some_iff] at h
  obtain ⟨us, hu, h⟩ := h
  rw [Option.map_eq_some_iff] at h
  obtain ⟨r, hr, rfl⟩ := h
  obtain ⟨hl, hf⟩ := apq hx hz hc hb i (by omega) us hu
  unfold j8 at hr
  rw [Option.bind_eq_some_iff] at hr
  obtain ⟨r', hv, hr⟩ := hr
  split at hr
  ·cases hr
  ·rename_i hn
   cases hr
   subst hl
   have k := afy hf (hx _ (by omega)) hz (hc _ (by omega)) (hb _ (by omega)) hv
   exact ⟨by simp, hf.add ⟨k.1, hb _ (by omega)⟩ k.2 hn⟩
theorem akp {xs : List Nd} {z : Cq} (hx : ∀ i, i < xs.length → k9 (xs.getD i Nd.nil) i = true) (hz : Hc 104 z) (hc : ∀ i, i < xs.length → Hc 104 (xs.getD i Nd.nil).r.val) (hb : ∀ i, i < xs.length → ik (szL xs i) (xs.getD i Nd.nil) i ≤ 60) : ∀ i, i ≤ xs.length → ∀ vs, qk xs z i = some vs → vs.length = i ∧ Fit (szL xs i) vs
 | 0, _, vs, h => by cases h; exact ⟨rfl, Fit.nil⟩
 | i + 1, hi, vs, h => by
  unfold qk at h
  rw [Option.bind_eq_some_iff] at h
  obtain ⟨us, hu, h⟩ := h
  rw [Option.map_eq_some_iff] at h
  obtain ⟨r, hr, rfl⟩ := h
  obtain ⟨hl, hf⟩ := akp hx hz hc hb i (by omega) us hu
  unfold eb at hr
  rw [Option.bind_eq_some_iff] at hr
  obtain ⟨r', hv, hr⟩ := hr
  split at hr
  ·cases hr
  ·rename_i hn
   cases hr
   subst hl
   have k := ahr hf (hx _ (by omega)) hz (hc _ (by omega)) (hb _ (by omega)) hv
   exact ⟨by simp, hf.add ⟨k.1, hb _ (by omega)⟩ k.2 hn⟩
theorem a3g (kn : KN) (xs : List Nd) (rz : RC) (hn : xs.length < 2^62) : VX xs rz := by
 cases h1 : ns xs
 ·exact apa kn xs rz hn (.inl h1)
 cases h2 : rz.few 2 40
 ·exact apa kn xs rz hn (.inr (.inl h2))
 rcases Bool.eq_false_or_eq_true (adr xs) with h3 | h3
 ·exact apa kn xs rz hn (.inr (.inr h3))
 have hall : ∀ x ∈ xs, x.r.few 2 40 = true := by
  have h1 := h1
  unfold ns at h1
  simp only [Bool.and_eq_true, List.all_eq_true] at h1; exact h1.1
 have hl1 : ∀ x ∈ xs, x.r.l.length ≤ 2 ∧ x.r.k.length ≤ 2 := fun x hx => by
  have := RC.u6.1 (hall x hx); omega
 have hgt : ∀ i, i < xs.length → xs.getD i Nd.nil ∈ xs := fun i hi => by
  rw [List.getD_eq_getElem?_getD, List.getElem?_eq_getElem hi]; exact List.getElem_mem hi
 cases hx : gu xs
 ·exact aq7 kn xs rz hn h1 h2 h3 (as5 hn (fun x h => by have := hl1 x h; omega) hx) (asf hn (fun x h => by have := hl1 x h; omega) hx)
 obtain ⟨zR, zF, zH⟩ := dz h2
 have hc : ∀ i, i < xs.length → Hc 104 (xs.getD i Nd.nil).r.val := fun i hi => (dz (hall _ (hgt i hi))).2.2
 have hcz : ∀ i, i < xs.length → CxF (.agg (xs.getD i Nd.nil).r.cells) (xs.getD i Nd.nil).r.val := fun i hi => (dz (hall _ (hgt i hi))).2.1
 have hb : ∀ i, i < xs.length → ik (szL xs i) (xs.getD i Nd.nil) i ≤ 60 := aah.1 h3
 have hx2 := hx
 unfold gu at hx2
 simp only [Bool.and_eq_true, decide_eq_true_eq, List.all_eq_true, List.mem_range] at hx2
 obtain ⟨⟨n0, n40⟩, hnd⟩ := hx2
 have e1 := z9 hn (fun x h => by have := hl1 x h; omega) zR zH hc hx hb
 have e2 := agc hn (fun x h => by have := hl1 x h; omega) zF hcz zH hc hx hb
 rcases akr (z := rz.val) hx xs.length (Nat.le_refl _) with ⟨a, b⟩ | ⟨ps, rs, a, b, sv⟩
 ·rw [a] at e1
  rw [b] at e2
  exact aq7 kn xs rz hn h1 h2 h3 e1 e2
 ·obtain ⟨l1, f1⟩ := apq hnd zH hc hb _ (Nat.le_refl _) _ a
  obtain ⟨l2, f2⟩ := akp hnd zH hc hb _ (Nat.le_refl _) _ b
  rw [a] at e1
  rw [b] at e2
  have j1 : ps.length - 1 < ps.length := by omega
  have j2 : rs.length - 1 < rs.length := by omega
  obtain ⟨v, v1, v2⟩ := sv.v _ j1
  rw [show ps.length - 1 = rs.length - 1 by omega] at v2
  have b1 := f1.s1 _ j1
  have b2 := f2.s1 _ j2
  exact a0b kn xs rz hn h1 h2 h3 ((f1.v _ j1).mono (by omega)) ((f2.v _ j2).mono (by omega)) (f1.nz _ j1) (Vl.alike v1 v2) e1 e2
end Go.Ev.Ar

namespace Go.Ev.Ar
open Go Go.Ev Go.Proofs
theorem aw8 {P : Program} {G : bb} {fr : Bool} {f : FuncId} {args args' : List D} {r : D} (h : Sim P G fr f args r) (k : ∀ S w vs, DRs S w args' vs → DRs S w args vs) : Sim P G fr f args' r :=
 ⟨h.can, fun S w vs a b c => h.run S w vs a b (k S w vs c)⟩
theorem ara {S : Imm} {w : World} {n : Nat} {cs : List D} {v : Value} (h : DR S w (.slice n cs) v) : DR S w (.slice n (cs.map a1u)) v := by
 simp only [DR] at h ⊢
 obtain ⟨a, c, hu, hc, hcells⟩ := h
 refine ⟨a, c, hu, hc, ?_⟩
 rcases hcells with h | ⟨b, o, ha, hL⟩
 ·exact .inl (by rw [h]; rfl)
 ·exact .inr ⟨b, o, ha, aik _ _ hL⟩
theorem uf {P : Program} {G : bb} {fr : Bool} {f : FuncId} {n : Nat} {cs : List D} {args : List D} {r : D} (h : Sim P G fr f (.slice n (cs.map a1u) :: args) r) : Sim P G fr f (.slice n cs :: args) r :=
 aw8 h fun S w vs g => by
  simp only [DRs] at g ⊢
  obtain ⟨u, us, e, g1, g2⟩ := g
  exact ⟨u, us, e, ara g1, g2⟩
set_option maxRecDepth 10000 in
set_option maxHeartbeats 8000000 in
theorem a2i {xs : List Nd} {X : Rq} {p : Int} (hn : xs.length < 2^62) (hl : ∀ x ∈ xs, Few x) (hx : gu xs = false) :
  Sim Tryz.prog G0 false 57 [nsl xs, rqD X, .int .i64 p] (atD (.error 10)) := by
 have s0 := th xs hn hl
 rw [hx] at s0
 obtain ⟨⟨X1, X2⟩, ⟨X3, X4⟩⟩ := X
 refine an (hs := (atj _)) af Tryz.func57 ?_
 repeat' ((conv => whnf); first | refine rgE ?_ | refine Cd.mk rfl ?_)
 refine ac1 af ?_
 repeat' ((conv => whnf); first | with_reducible refine ah.data ?_ | refine aa.mk _ _ (s0) ?_ | refine rgE ?_ | refine Cd.mk rfl ?_ | refine Br.t ?_ | (refine TkE.fL ?_; (conv => whnf); fail_if_success (show ae _ _)) | refine Res.mk ?_ | ((with_reducible refine EqE.idS ?_); (refine EqE.fP ?_; (conv => whnf); fail_if_success (show ae _ _))) | refine Cd.ol ?_)
 all_goals (rw [show atD (.error 10) = D.tup [rqD zR, .int .i64 10] from rfl, ← n4]; rfl)
end Go.Ev.Ar

namespace Go.Ev.Ar
open Go Go.Ev Go.Proofs
def kX : List Nd := [⟨1, 0, 0, 0, RC.nil⟩, ⟨5, 0, 0, 0, RC.nil⟩]
end Go.Ev.Ar

namespace Go.Ev.Ar
open Go Go.Ev Go.Proofs
abbrev d0 : Dyadic := dof 0 0
abbrev d1 : Dyadic := dof 1 0
abbrev dm : Dyadic := dof (-1) 0
theorem ky1 : atL kX (c9 (((d0, d0), (d1, d1)) : Rq)) 50 2 = .ok [((d0, d0), (d1, d1)), ((dm, dm), (d0, d0))] := by kernel_rfl
theorem ky2 : exL kX ((d0, d1) : Cq) 2 = some [((d0, d1), ag), ((dm, d0), ag)] := by kernel_rfl
theorem ky3 : (slL kX 2).2.getD 1 0 = 5 := by kernel_rfl
theorem ky4 : atL [⟨1, 0, 0, 0, RC.nil⟩, ⟨6, 0, 0, 0, RC.nil⟩] (c9 (((0, 0), (0, 0)) : Rq)) 50 2 = .error 11 := by kernel_rfl
end Go.Ev.Ar

namespace Go.Ev.Ar
open Go Go.Ev Go.Proofs
theorem aek {xs : List Nd} {X : Rq} {p : Int} (hn : xs.length < 2^62) (hl : ∀ x ∈ xs, x.r.l.length < 2^32 ∧ x.r.k.length < 2^32) (hx : gu xs = true) (k7 : ∀ i, i < xs.length → (xs.getD i Nd.nil).k ≤ 7) (hc : ∀ i, i < xs.length → (xs.getD i Nd.nil).k = 2 → Nq (xs.getD i Nd.nil).r.val.1 ∧ Nq (xs.getD i Nd.nil).r.val.2) (hX : Nr X) :
  Sim Tryz.prog G0 false 57 [nsl xs, rqD X, .int .i64 p] (atD (atL xs (c9 X) (min (max p 2) 200) xs.length)) :=
 a0a hn hl hx (fun i vs Y R q c hi hv hg hn' gY hq hR => by
  subst hv
  have hci := hc _ hi
  have h2 := a1s (X := Y) (p := q) hg hn' (k7 _ hi) hci gY hq
  rw [hR] at h2
  exact ⟨ao8 (by omega) hn hg hn' (k7 _ hi) (fun k => ⟨(hci k).1.ht, (hci k).2.ht⟩) hq hR, h2.1, h2.2⟩) hX
end Go.Ev.Ar

namespace Go.Ev.Ar
open Go Go.Ev Go.Proofs
def kn2 (k : Int) : List D := [.int .i64 1, .int .i64 0, .int .i64 0, .int .i64 0, .bool false, .nil, .int .i64 0, .bool false, .nil, .int .i64 0, .int .i64 k, .int .i64 0, .int .i64 0, .int .i64 0, .bool false, .nil, .int .i64 0, .bool false, .nil, .int .i64 0]
def kY : List Nd := [⟨1, 0, 0, 0, RC.nil⟩, ⟨6, 0, 0, 0, RC.nil⟩]
theorem anj : ∀ x ∈ kX, Few x := by intro x hx; simp only [kX, List.mem_cons, List.not_mem_nil, or_false] at hx; rcases hx with rfl | rfl <;> exact n9 ..
theorem a1a : ∀ x ∈ kY, Few x := by intro x hx; simp only [kY, List.mem_cons, List.not_mem_nil, or_false] at hx; rcases hx with rfl | rfl <;> exact n9 ..
def rzI : RC := ⟨a7 (aj d0), ofN (aj d0).natAbs, ar d0, a7 (aj d1), ofN (aj d1).natAbs, ar d1⟩
theorem nq0 : Nq d0 := afz rfl (by decide) (by kernel_rfl)
theorem nq1 : Nq d1 := afz rfl (by decide) (by kernel_rfl)
theorem nqm : Nq dm := afz rfl (by decide) (by kernel_rfl)
theorem kA1 : Sim Tryz.prog G0 false 57 [.slice 2 (kn2 5), rqD ((d0, d0), (d1, d1)), .int .i64 50] (.tup [rqD ((dm, dm), (d0, d0)), .int .i64 0]) := by
 have h := aek (xs := kX) (X := ((d0, d0), (d1, d1))) (p := 50) (by decide) anj (by kernel_rfl) (fun i hi => by
  have : i = 0 ∨ i = 1 := by have : kX.length = 2 := rfl; omega
  rcases this with rfl | rfl <;> decide) (fun i hi hk => by
  have : i = 0 ∨ i = 1 := by have : kX.length = 2 := rfl; omega
  rcases this with rfl | rfl <;> exact absurd hk (by decide)) ⟨⟨nq0, nq0⟩, ⟨nq1, nq1⟩⟩
 have e : atL kX (c9 ((d0, d0), (d1, d1))) (min (max 50 2) 200) kX.length = .ok [((d0, d0), (d1, d1)), ((dm, dm), (d0, d0))] := ky1
 rw [e] at h
 exact uf (cs := kn2 5) (n := 2) h
theorem kA2 : Sim Tryz.prog G0 false 57 [.slice 0 [], rqD zR, .int .i64 50] (.tup [rqD zR, .int .i64 10]) := a2i (xs := []) (X := zR) (p := 50) (by decide) (by simp) rfl
theorem kA3 : Sim Tryz.prog G0 false 57 [.slice 2 (kn2 6), rqD zR, .int .i64 50] (.tup [rqD zR, .int .i64 11]) := by
 have nz : Nq (0 : Dyadic) := Nq.zero
 have h := aek (xs := kY) (X := zR) (p := 50) (by decide) a1a (by kernel_rfl) (fun i hi => by
  have : i = 0 ∨ i = 1 := by have : kY.length = 2 := rfl; omega
  rcases this with rfl | rfl <;> decide) (fun i hi hk => by
  have : i = 0 ∨ i = 1 := by have : kY.length = 2 := rfl; omega
  rcases this with rfl | rfl <;> exact absurd hk (by decide)) ⟨⟨nz, nz⟩, ⟨nz, nz⟩⟩
 have e : atL kY (c9 zR) (min (max 50 2) 200) kY.length = .error 11 := ky4
 rw [e] at h
 exact uf (cs := kn2 6) (n := 2) h
end Go.Ev.Ar

namespace Go.Ev.Ar
open Go Go.Ev Go.Proofs
theorem k2i {i : Nat} (h : i < kX.length) : i = 0 ∨ i = 1 := by have : kX.length = 2 := rfl; omega
theorem azx : rzI.val = (d0, d1) := by kernel_rfl
theorem kE : Sim Tryz.prog G0 false 47 [.slice 2 (kn2 5), cxD (d0, d1)] (.tup [cxD (dm, d0), cxD ag, .bool true]) := by
 obtain ⟨zR, zF, zH⟩ := dz (r := rzI) (by kernel_rfl)
 rw [azx] at zR zH
 have h := z9 (xs := kX) (rz := rzI) (z := (d0, d1)) (by decide) anj zR zH (fun i hi => by
  rcases k2i hi with rfl | rfl <;> exact (dz (r := RC.nil) (by kernel_rfl)).2.2) (by kernel_rfl) (fun i hi => by
  rcases k2i hi with rfl | rfl
  ·exact of_decide_eq_true (show decide (ik (szL kX 0) (kX.getD 0 Nd.nil) 0 ≤ 60) = true by kernel_rfl)
  ·exact of_decide_eq_true (show decide (ik (szL kX 1) (kX.getD 1 Nd.nil) 1 ≤ 60) = true by kernel_rfl))
 have e : exL kX (d0, d1) kX.length = some [((d0, d1), ag), ((dm, d0), ag)] := ky2
 rw [e] at h
 exact uf (cs := kn2 5) (n := 2) h
theorem kS : ∃ C, Sim Tryz.prog G0 false 58 [.slice 2 (kn2 5)] (.tup [.slice 6 C, .bool true]) := by
 have h := as7 kX anj (by kernel_rfl) (es := (slL kX 2).1) (d := 5) rfl ky3
 have e1 : (slR (slL kX 2).1 5).sc = false := by kernel_rfl
 have e2 : slT (slL kX 2).1 5 = .tup [.slice 6 (((slL kX 2).1.take 6).flatMap Nd.cells), .bool true] := by kernel_rfl
 rw [e1, e2] at h
 exact ⟨_, uf (cs := kn2 5) (n := 2) h⟩
theorem kH : Sim Tryz.prog G0 true 41 [rqD ((dm, dm), (d0, d0)), cxD (dm, d0)] (.bool true) :=
 alv ⟨⟨nqm.ht.mono (by decide), nqm.ht.mono (by decide)⟩, ⟨nq0.ht.mono (by decide), nq0.ht.mono (by decide)⟩⟩ ⟨nqm.ht.mono (by decide), nq0.ht.mono (by decide)⟩ (by kernel_rfl)
theorem kL : Sim Tryz.prog G0 true 51 [rqD ((dm, d0), ag), rqD ((dm, d0), (d1, d0))] (.bool true) := by
 have t0 : Ht 9000 (dof 0 0) := Ht.mono (show Ht 164 (dof 0 0) from Ht.cst (by decide)) (by decide)
 have t1 : Ht 9000 (dof 1 0) := Ht.mono (show Ht 164 (dof 1 0) from Ht.cst (by decide)) (by decide)
 have t2 : Ht 9000 (dof (-1) 0) := Ht.mono (show Ht 164 (dof (-1) 0) from Ht.cst (by decide)) (by decide)
 exact aco (p := ((dm, d0), ag)) (q := ((dm, d0), (d1, d0))) ⟨⟨t2, t0⟩, pj _ (by decide)⟩ ⟨⟨t2, t0⟩, ⟨t1, t0⟩⟩ (by kernel_rfl)
set_option maxRecDepth 10000 in
set_option maxHeartbeats 8000000 in
theorem ayu : KN := by
 have a1 := kA1
 have a2 := kA2
 have a3 := kA3
 have e1 := kE
 obtain ⟨C, s1⟩ := kS
 have h1 := kH
 have l1 := kL
 have o1 : Sim Tryz.prog G0 false 42 [.int .i64 0, .int .i64 1] (cxD (d0, d1)) := abk 0 1 (by decide) (by decide) (by decide) (by decide)
 have o2 : Sim Tryz.prog G0 false 42 [.int .i64 (-1), .int .i64 0] (cxD (dm, d0)) := abk (-1) 0 (by decide) (by decide) (by decide) (by decide)
 have o3 : Sim Tryz.prog G0 false 42 [.int .i64 1, .int .i64 0] (cxD (d1, d0)) := abk 1 0 (by decide) (by decide) (by decide) (by decide)
 have p1 := asb (d0, d1)
 rw [← n4] at a2 a3
 refine an af Tryz.func43 ?_
 repeat' ((conv => whnf); first | with_reducible refine ah.data ?_ | refine aa.mk _ _ (a1) ?_ | refine aa.mk _ _ (a2) ?_ | refine aa.mk _ _ (a3) ?_ | refine aa.mk _ _ (e1) ?_ | refine aa.mk _ _ (s1) ?_ | refine aa.mk _ _ (h1) ?_ | refine aa.mk _ _ (l1) ?_ | refine aa.mk _ _ (o1) ?_ | refine aa.mk _ _ (o2) ?_ | refine aa.mk _ _ (o3) ?_ | refine aa.mk _ _ (p1) ?_ | refine DsE.mk (kn2 5) rfl ?_ | refine DsE.mk (kn2 6) rfl ?_ | refine rgE ?_ | refine Cd.mk rfl ?_ | refine Br.t ?_ | refine ai.mk _ rfl ?_ | (refine TkE.fL ?_; (conv => whnf); fail_if_success (show ae _ _)) | refine Res.mk ?_ | ((with_reducible refine EqE.idS ?_); (refine EqE.fP ?_; (conv => whnf); fail_if_success (show ae _ _))) | ((with_reducible refine EqE.idL ?_); refine EqE.mk _ rfl ?_) | refine Cd.ol ?_)
 all_goals rfl
theorem ao7 (xs : List Nd) (rz : RC) (hn : xs.length < 2^62) : VX xs rz := a3g ayu xs rz hn
end Go.Ev.Ar

namespace Go.Ev.Ar
open Go Go.Ev Go.Proofs
theorem u7 (xs : List Nd) (hn : xs.length ≤ 9223372036854775807) : Sim Tryz.prog G0 true 44 [nsl xs] (.bool (ns xs)) := by
 refine an af Tryz.func44 ?_
 repeat' ((conv => whnf); first | refine rgE ?_)
 refine ⟨[], [0, 3], [], fun m ys h => ∃ (i : Nat), m = xs.length - i ∧ i ≤ xs.length ∧ (∀ j, j < i → (xs.getD j Nd.nil).r.few 2 40 = true) ∧ ys = [.d (nsl xs), .d (.int .i64 i)] ∧ h = [],
  ⟨_, _, _, ⟨.inl rfl, rfl, rfl, by first | rfl | (repeat first | exact all_nil _ | refine bn _ _ _ _ _ ?_)⟩, 0, rfl, by omega, fun j hj => absurd hj (by omega), rfl, rfl⟩, ?_⟩
 rintro m ys h ⟨i, rfl, hi, hall, rfl, rfl⟩
 by_cases hlt : i < xs.length
 ·have s := fo (xs.getD i Nd.nil).r
  obtain ⟨t, ht⟩ : ∃ t, (xs.getD i Nd.nil).r.few 2 40 = t := ⟨_, rfl⟩
  rw [ht] at s
  have T1 := avq xs i hlt
  generalize hr : (xs.getD i Nd.nil).r = r at *
  obtain ⟨b1, l1, e1, c1, k1, f1⟩ := r
  cases t
  ·have no : ns xs = false := by
    unfold ns
    rw [Bool.and_eq_false_iff]; left
    rw [List.all_eq_false]
    exact ⟨xs.getD i Nd.nil, by simp [hlt], by rw [hr, ht]; decide⟩
   repeat' ((conv => whnf); first | with_reducible refine ah.data ?_ | with_reducible refine Br.bt fun _ => ?_ | refine aa.mk _ _ (s) ?_ | refine Cd.mk (bj xs _ (by omega)) ?_ | refine TkE.mk _ T1 rfl ?_ | refine rgE ?_ | refine Cd.mk rfl ?_ | refine Br.t ?_ | refine Res.mk ?_)
   show D.bool _ = D.bool _; rw [no]
  ·repeat' ((conv => whnf); first | with_reducible refine ah.data ?_ | with_reducible refine Br.bt fun _ => ?_ | refine aa.mk _ _ (s) ?_ | refine Cd.mk (bj xs _ (by omega)) ?_ | refine TkE.mk _ T1 rfl ?_ | refine rgE ?_ | refine Cd.mk rfl ?_ | refine Br.f ?_ | refine ao.cu _ _ ?_ | ((with_reducible refine EqE.idW ?_); with_reducible refine EqE.mk _ (a5 _ (by omega)) ?_))
   exact ⟨_, ⟨i + 1, rfl, by omega, fun j hj => by
    rcases Nat.lt_succ_iff_lt_or_eq.1 hj with g | rfl
    ·exact hall j g
    ·rw [hr]; exact ht, rfl, rfl⟩, by omega⟩
 ·repeat' ((conv => whnf); first | with_reducible refine Br.bf fun _ => ?_ | refine rgE ?_ | refine Cd.mk rfl ?_ | refine Res.mk ?_)
  have : (xs.all fun x => x.r.few 2 40) = true := List.all_eq_true.2 fun x hx => by
   obtain ⟨j, hj, rfl⟩ := List.mem_iff_getElem.1 hx
   have := hall j (by omega)
   rwa [List.getD_eq_getElem?_getD, List.getElem?_eq_getElem hj] at this
  show D.bool _ = D.bool _
  unfold ns
  rw [this, Bool.true_and]
  exact congrArg D.bool (decide_eq_decide.2 (by omega))
theorem amp (xs : List Nd) (rz : RC) (hn : xs.length ≤ 9223372036854775807) : VX xs rz := by
 by_cases h : xs.length < 2^62
 ·exact ao7 xs rz h
 ·have s1 := u7 xs hn
  have kn := ayu
  have h1 : ns xs = false := by
   unfold ns
   rw [decide_eq_false (by omega), Bool.and_false]
  rw [h1] at s1
  obtain ⟨bz, lz, ez, cz, kz, fz⟩ := rz
  refine an af Tryz.func8 ?_
  repeat' ((conv => whnf); first | with_reducible refine ah.data ?_ | refine aa.mk _ _ (kn) ?_ | refine aa.mk _ _ (s1) ?_ | refine rgE ?_ | refine Cd.mk rfl ?_ | refine Br.t ?_ | refine Br.f ?_ | refine Res.mk ?_)
  all_goals rfl
end Go.Ev.Ar

namespace Go.Ev.Ar
open Go Go.Ev Go.Proofs
abbrev a18 : Sh := .struct [.int .i64, .int .i64, .int .i64, .int .i64, ajz]
abbrev aw5 : Sh := .slice a18
theorem a1b {ds : List D} (h : a18.has ds) : ∃ x : Nd, ds = x.cells := by
 simp only [Sh.has, Sh.hasAll] at h
 obtain ⟨_, _, rfl, ⟨k, rfl, _⟩, _, _, rfl, ⟨a, rfl, _⟩, _, _, rfl, ⟨b, rfl, _⟩, _, _, rfl, ⟨n, rfl, _⟩, _, _, rfl, h2, rfl⟩ := h
 obtain ⟨r, rfl⟩ := ai6 (by simp only [Sh.has, Sh.hasAll]; exact h2)
 exact ⟨⟨k, a, b, n, r⟩, rfl⟩
theorem ada : ∀ {ls : List (List D)}, (∀ l ∈ ls, a18.has l) → ∃ xs : List Nd, ls.flatten = xs.flatMap Nd.cells ∧ xs.length = ls.length
 | [], _ => ⟨[], rfl, rfl⟩
 | x :: ls, h => by
  obtain ⟨xs, h1, h2⟩ := ada (ls := ls) fun y hy => h y (by simp [hy])
  obtain ⟨r, rfl⟩ := a1b (h x (by simp))
  exact ⟨r :: xs, by simp [h1], by simp [h2]⟩
theorem ape {x : D} (h : ag1 aw5 x) : ∃ xs : List Nd, x = nsl xs ∧ xs.length ≤ 9223372036854775807 := by
 obtain ⟨ds, ⟨n, ls, rfl, h1, h2, h3⟩, rfl⟩ := h
 obtain ⟨xs, h4, h5⟩ := ada h3
 rw [ar6] at h2
 refine ⟨xs, ?_, by omega⟩
 rw [h4]; unfold nsl; rw [h5, h1]; rfl
end Go.Ev.Ar

namespace Go.Ev.Ar
open Go Go.Ev Go.Proofs
def am9 (v n : Dyadic) (y : Cq) : Bool := decide (y.1 * n ≤ v ∧ v ≤ y.2 * n)
theorem adj {v n : Dyadic} {y : Cq} {t : Bool} (hv : Ht 40000 v) (hn : Ht 20000 n) (hy : Hc 20000 y) (h : am9 v n y = t) : Sim Tryz.prog G0 true 115 [dyD v, dyD n, cxD y] (.bool t) := by
 subst h
 unfold am9
 obtain ⟨p, q⟩ := y
 have m1 := ma (hy.1.mono (show 20000 ≤ 25000 by decide)) (hn.mono (show 20000 ≤ 25000 by decide))
 have m2 := ma (hy.2.mono (show 20000 ≤ 25000 by decide)) (hn.mono (show 20000 ≤ 25000 by decide))
 have t1 : Ht 40000 (p * n) := hy.1.mul hn (by decide)
 have t2 : Ht 40000 (q * n) := hy.2.mul hn (by decide)
 dsimp only at m1 m2 ⊢
 generalize p * n = a at *
 generalize q * n = b at *
 have h1 := t1.sub hv (c := 50000) (by decide)
 have h2 := hv.sub t2 (c := 50000) (by decide)
 refine an af Tryz.func115 ?_
 repeat' ((conv => whnf); first | refine aa.mk _ _ (m1) ?_ | refine aa.mk _ _ (m2) ?_ | refine aa.mk _ _ (uc (p := a) (q := v) (t1.mono (by decide)) (hv.mono (by decide)) h1) ?_ | refine aa.mk _ _ (uc (p := v) (q := b) (hv.mono (by decide)) (t2.mono (by decide)) h2) ?_ | refine rgE ?_ | refine Cd.mk rfl ?_ | refine Br.t ?_ | refine Br.f ?_ | with_reducible refine Br.dec (fun _ => ?_) (fun _ => ?_) | (refine TkE.fL ?_; (conv => whnf); fail_if_success (show ae _ _)) | refine Res.mk ?_)
 ·rename_i h
  refine congrArg D.bool (decide_eq_decide.2 ?_)
  rw [j0] at h ⊢
  exact ⟨fun g => g.2, fun g => ⟨h, g⟩⟩
 ·rename_i h
  rw [j0] at h
  exact congrArg D.bool (decide_eq_false fun g => h g.1)
theorem awj {a : Cq} {d : Dyadic} (ha : Hc 20000 a) (h : o7 a = d) : Sim Tryz.prog G0 false 114 [cxD a] (dyD d) := by
 subst h
 have m1 := ma (ha.1.mono (show 20000 ≤ 25000 by decide)) (ha.1.mono (show 20000 ≤ 25000 by decide))
 have m2 := ma (ha.2.mono (show 20000 ≤ 25000 by decide)) (ha.2.mono (show 20000 ≤ 25000 by decide))
 have s := ub ((ha.1.mul ha.1 (c := 40000) (by decide)).mono (show 40000 ≤ 49000 by decide)) ((ha.2.mul ha.2 (c := 40000) (by decide)).mono (show 40000 ≤ 49000 by decide))
 unfold o7
 generalize a.1 * a.1 + a.2 * a.2 = n at *
 generalize a.1 * a.1 = p at *
 generalize a.2 * a.2 = q at *
 obtain ⟨_, _⟩ := a
 refine an af Tryz.func114 ?_
 repeat' ((conv => whnf); first | refine aa.mk _ _ (m1) ?_ | refine aa.mk _ _ (m2) ?_ | refine aa.mk _ _ (s) ?_ | refine rgE ?_ | refine Cd.mk rfl ?_ | (refine TkE.fL ?_; (conv => whnf); fail_if_success (show ae _ _)) | refine Res.mk ?_ | ((with_reducible refine EqE.idS ?_); (refine EqE.fP ?_; (conv => whnf); fail_if_success (show ae _ _))) | refine Cd.ol ?_)
 rfl
def aa5 (p : Rq) : Cq := aw p.1 (p.2.1, -p.2.2)
def ap5 (p y : Rq) : Bool := am9 (aa5 p).1 (o7 p.2) y.1 && am9 (aa5 p).2 (o7 p.2) y.2
theorem awn {p y : Rq} {t : Bool} (hp : Hr 9000 p) (hy : Hr 20000 y) (h : ap5 p y = t) : Sim Tryz.prog G0 true 62 [rqD p, rqD y] (.bool t) := by
 subst h
 have n1 := yq (hp.2.2.mono (show 9000 ≤ 50000 by decide))
 have m1 := jt (b := (p.2.1, -p.2.2)) (hp.1.mono (show 9000 ≤ 20000 by decide)) ⟨hp.2.1.mono (by decide), hp.2.2.neg.mono (by decide)⟩ rfl
 have m2 := awj (hp.2.mono (show 9000 ≤ 20000 by decide)) rfl
 have t1 : Hc 18001 (aw p.1 (p.2.1, -p.2.2)) := Hc.aw (b := 9000) hp.1 ⟨hp.2.1, hp.2.2.neg⟩ (by decide)
 have t2 : Ht 18001 (o7 p.2) := (hp.2.1.mul hp.2.1 (c := 18000) (by decide)).add (hp.2.2.mul hp.2.2 (c := 18000) (by decide)) (by decide)
 unfold ap5 aa5
 obtain ⟨b1, e1⟩ : ∃ t, am9 (aw p.1 (p.2.1, -p.2.2)).1 (o7 p.2) y.1 = t := ⟨_, rfl⟩
 obtain ⟨b2, e2⟩ : ∃ t, am9 (aw p.1 (p.2.1, -p.2.2)).2 (o7 p.2) y.2 = t := ⟨_, rfl⟩
 have s1 := adj (t1.1.mono (by decide)) (t2.mono (by decide)) hy.1 e1
 have s2 := adj (t1.2.mono (by decide)) (t2.mono (by decide)) hy.2 e2
 rw [e1, e2]
 clear e1 e2 t1 t2 hp hy
 generalize aw p.1 (p.2.1, -p.2.2) = c at *
 generalize o7 p.2 = n at *
 generalize -p.2.2 = m at *
 obtain ⟨⟨_, _⟩, ⟨_, _⟩⟩ := p
 obtain ⟨⟨_, _⟩, ⟨_, _⟩⟩ := y
 obtain ⟨_, _⟩ := c
 cases b1
 ·refine an af Tryz.func62 ?_
  repeat' ((conv => whnf); first | with_reducible refine ah.data ?_ | refine aa.mk _ _ (n1) ?_ | refine aa.mk _ _ (m1) ?_ | refine aa.mk _ _ (m2) ?_ | refine aa.mk _ _ (s1) ?_ | refine rgE ?_ | refine Cd.mk rfl ?_ | refine Br.f ?_ | (refine TkE.fL ?_; (conv => whnf); fail_if_success (show ae _ _)) | refine Res.mk ?_ | ((with_reducible refine EqE.idS ?_); (refine EqE.fP ?_; (conv => whnf); fail_if_success (show ae _ _))) | refine Cd.ol ?_)
  all_goals rfl
 ·refine an af Tryz.func62 ?_
  repeat' ((conv => whnf); first | with_reducible refine ah.data ?_ | refine aa.mk _ _ (n1) ?_ | refine aa.mk _ _ (m1) ?_ | refine aa.mk _ _ (m2) ?_ | refine aa.mk _ _ (s1) ?_ | refine aa.mk _ _ (s2) ?_ | refine rgE ?_ | refine Cd.mk rfl ?_ | refine Br.t ?_ | (refine TkE.fL ?_; (conv => whnf); fail_if_success (show ae _ _)) | refine Res.mk ?_ | ((with_reducible refine EqE.idS ?_); (refine EqE.fP ?_; (conv => whnf); fail_if_success (show ae _ _))) | refine Cd.ol ?_)
  all_goals rfl
theorem Vl.a22 {p y : Rq} {v : Cr} (h : Vl p v) (hy : fp y v) : ap5 p y = true := by
 have n0 : 0 ≤ (o7 p.2).toRat := by
  unfold o7
  rw [tq, kb, kb]
  have sq : ∀ r : Rat, 0 ≤ r * r := fun r => by
   rcases Classical.em (0 ≤ r) with g | g
   ·exact Rat.mul_nonneg g g
   ·have := Rat.mul_nonneg (show 0 ≤ -r by grind) (show 0 ≤ -r by grind); grind
  have s1 := sq p.2.1.toRat
  have s2 := sq p.2.2.toRat
  grind
 have e : tc (aa5 p) = v * (tc p.2 * tc (p.2.1, -p.2.2)) := by
  unfold aa5
  rw [q7, h.eq]; grind
 have ec : (tc p.2 * tc (p.2.1, -p.2.2)).re = (o7 p.2).toRat ∧ (tc p.2 * tc (p.2.1, -p.2.2)).im = 0 := by
  unfold o7
  rw [tq, kb, kb]
  constructor
  ·show p.2.1.toRat * p.2.1.toRat - p.2.2.toRat * (-p.2.2).toRat = _
   rw [adi]; grind
  ·show p.2.1.toRat * (-p.2.2).toRat + p.2.2.toRat * p.2.1.toRat = _
   rw [adi]; grind
 have er : (aa5 p).1.toRat = v.re * (o7 p.2).toRat := by
  have := congrArg Cr.re e
  rw [Cr.jo, ec.1, ec.2] at this
  show (tc (aa5 p)).re = _
  grind
 have ei : (aa5 p).2.toRat = v.im * (o7 p.2).toRat := by
  have := congrArg Cr.im e
  rw [Cr.iy, ec.1, ec.2] at this
  show (tc (aa5 p)).im = _
  grind
 have one : ∀ {z : Cq} {r : Rat} {d : Dyadic}, lh z r → d.toRat = r * (o7 p.2).toRat → am9 d (o7 p.2) z = true := fun {z r d} hz hd => by
  refine decide_eq_true ⟨ka.1 ?_, ka.1 ?_⟩
  ·rw [kb, hd]; exact Rat.mul_le_mul_of_nonneg_right hz.1 n0
  ·rw [kb, hd]; exact Rat.mul_le_mul_of_nonneg_right hz.2 n0
 unfold ap5
 rw [one hy.1 er, one hy.2 ei]; rfl
end Go.Ev.Ar
