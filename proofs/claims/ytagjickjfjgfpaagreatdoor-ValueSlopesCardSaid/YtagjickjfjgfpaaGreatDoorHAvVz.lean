/- Contracts of the given functions, on data. Conditions stand in each theorem. -/
import Derived.Test.YtagjickjfjgfpaaGreatDoorHEvR
import Derived.Test.YtagjickjfjgfpaaGreatDoorHAvVu
import Derived.Test.YtagjickjfjgfpaaGreatDoorHAvDyL
import Derived.Test.YtagjickjfjgfpaaGreatDoorHAvVk
import Derived.Test.YtagjickjfjgfpaaGreatDoorHAvVf
import Derived.Test.YtagjickjfjgfpaaGreatDoorHAvEu
import Derived.Test.YtagjickjfjgfpaaGreatDoorHAvQuot
set_option linter.unusedSimpArgs false
set_option linter.unusedVariables false
namespace Go.Ev.Ar
open Go Go.Ev Go.Proofs
def Few (x : Nd) : Prop := x.r.l.length < 2^32 ∧ x.r.k.length < 2^32
def da (es : List Nd) (r : List Nd × Int) (m : Nat) : Prop := (∃ t, r.1 = es ++ t ∧ t.length ≤ m ∧ ∀ x ∈ t, Few x) ∧ -1 ≤ r.2 ∧ r.2 < r.1.length
theorem pj (k a b n : Int) : Few ⟨k, a, b, n, RC.nil⟩ := ⟨show (0 : Nat) < 2^32 by decide, show (0 : Nat) < 2^32 by decide⟩
theorem da.len {es : List Nd} {r : List Nd × Int} {m : Nat} (h : da es r m) : es.length ≤ r.1.length ∧ r.1.length ≤ es.length + m := by
 obtain ⟨⟨t, e, l, _⟩, _⟩ := h; rw [e, List.length_append]; omega
theorem da.ad (es : List Nd) {x : Nd} (h : Few x) : da es (adF es x) 1 := ⟨⟨[x], rfl, by simp, by simpa using h⟩, by unfold adF; dsimp only; omega, by unfold adF; simp; omega⟩
theorem da.non (es : List Nd) : da es (es, -1) 0 := ⟨⟨[], by simp, by simp, by simp⟩, by simp, by dsimp only; omega⟩
theorem da.trans {es : List Nd} {r s : List Nd × Int} {m k : Nat} (h : da es r m) (g : da r.1 s k) : da es s (m + k) := by
 obtain ⟨⟨t, e, l, f⟩, _⟩ := h
 obtain ⟨⟨u, e', l', f'⟩, g1, g2⟩ := g
 refine ⟨⟨t ++ u, by rw [e', e, List.append_assoc], by rw [List.length_append]; omega, fun x hx => ?_⟩, g1, g2⟩
 rcases List.mem_append.1 hx with h | h
 ·exact f x h
 ·exact f' x h
theorem da.mono {es : List Nd} {r : List Nd × Int} {m k : Nat} (h : da es r m) (g : m ≤ k) : da es r k := by
 obtain ⟨⟨t, e, l, f⟩, r⟩ := h; exact ⟨⟨t, e, by omega, f⟩, r⟩
theorem da.tm (es : List Nd) (x y : Int) : da es (tmF es x y) 1 := by
 unfold tmF; split
 ·exact (da.non es).mono (by omega)
 ·exact da.ad es (pj ..)
theorem da.at {es : List Nd} {x : Int} (h : -1 ≤ x ∧ x < es.length) : da es (es, x) 0 := ⟨⟨[], by simp, by simp, by simp⟩, h⟩
theorem da.pl (h0 : Few (cN 0)) (es : List Nd) (x y k : Int) (hx : -1 ≤ x ∧ x < es.length) (hy : -1 ≤ y ∧ y < es.length) : da es (plF es x y k) 2 := by
 unfold plF; split
 ·exact (da.at hx).mono (by omega)
 ·split
  ·exact (da.at hy).mono (by omega)
  ·split
   ·exact (da.ad es h0).trans (da.ad (es ++ [cN 0]) (pj ..))
   ·exact (da.ad es (pj ..)).mono (by omega)
theorem da.slF (hc : ∀ n : Int, -1 ≤ n → n ≤ 64 → Few (cN n)) {es : List Nd} {i : Int} {n : Nd} {ds : List Int} (hn : n.k = 7 → 0 ≤ n.n ∧ n.n ≤ 64) (hd : ∀ j, -1 ≤ ds.getD j 0 ∧ ds.getD j 0 < es.length) : da es (slF es i n ds) 12 := by
 have c0 := hc 0 (by decide) (by decide)
 unfold Ar.slF
 dsimp only
 have hA := hd n.a.toNat
 have hB := hd n.b.toNat
 generalize ds.getD n.a.toNat 0 = dA at *
 generalize ds.getD n.b.toNat 0 = dB at *
 split
 ·exact (da.ad es (hc 1 (by decide) (by decide))).mono (by omega)
 split
 ·exact (da.pl c0 es _ _ _ hA hB).mono (by omega)
 split
 ·have g1 := da.tm es dA n.b
  have g2 := da.tm (tmF es dA n.b).1 n.a dB
  have l1 := g1.len; have l2 := g2.len
  have g3 := da.pl c0 (tmF (tmF es dA n.b).1 n.a dB).1 (tmF es dA n.b).2 (tmF (tmF es dA n.b).1 n.a dB).2 3 ⟨g1.2.1, by have := g1.2.2; omega⟩ g2.2
  exact (g1.trans (g2.trans g3)).mono (by omega)
 split
 ·have g1 := da.tm es dA n.b
  have g2 := da.tm (tmF es dA n.b).1 n.a dB
  have l1 := g1.len; have l2 := g2.len
  have g3 := da.pl c0 (tmF (tmF es dA n.b).1 n.a dB).1 (tmF es dA n.b).2 (tmF (tmF es dA n.b).1 n.a dB).2 4 ⟨g1.2.1, by have := g1.2.2; omega⟩ g2.2
  have g4 := g1.trans (g2.trans g3)
  generalize plF (tmF (tmF es dA n.b).1 n.a dB).1 (tmF es dA n.b).2 (tmF (tmF es dA n.b).1 n.a dB).2 4 = u at *
  split
  ·exact (g4.trans ((da.non u.1))).mono (by omega)
  ·exact (g4.trans ((da.tm u.1 n.b n.b).trans (da.ad _ (pj ..)))).mono (by omega)
 split
 ·exact (da.non es).mono (by omega)
 split
 ·rename_i h7
  have hn := hn h7
  split
  ·exact (da.non es).mono (by omega)
  ·exact ((da.ad es (pj ..)).trans ((da.ad _ (hc n.n (by omega) (by omega))).trans ((da.tm _ _ _).trans (da.tm _ _ _)))).mono (by omega)
 split
 ·exact (da.tm es _ _).mono (by omega)
 split
 ·exact ((da.ad es (pj ..)).trans (da.tm _ _ _)).mono (by omega)
 ·exact ((da.ad es (pj ..)).trans ((da.ad _ (hc (-1) (by decide) (by decide))).trans ((da.tm _ _ _).trans (da.tm _ _ _)))).mono (by omega)
theorem a1c (m : Nat) : (ofN m).length ≤ m := by
 induction m using Nat.strongRecOn with
 | ind m ih =>
  by_cases h : m = 0
  ·subst h; rw [bh]; exact Nat.le_refl 0
  ·rw [y4 h, List.length_cons]
   have := ih (m / 4294967296) (by omega)
   omega
theorem a26 (n : Int) (h1 : -1 ≤ n) (h2 : n ≤ 64) : Few (cN n) := by
 refine ⟨?_, show (0 : Nat) < 2^32 by decide⟩
 show (ofN (ak (dof n 0)).natAbs).length < 2^32
 have := a1c (ak (dof n 0)).natAbs
 by_cases h0 : n = 0
 ·rw [h0, og, yn] at this ⊢
  have e : (0 : Int).natAbs = 0 := rfl
  omega
 ·have g := (nh (m := n) 0 h0).2.1
  have := Nat.div_le_self n.natAbs (2 ^ tzn n.natAbs)
  omega
def slS (s : List Nd × List Int) (i : Nat) (x : Nd) (ask : Bool) : List Nd × List Int :=
 if ask = true ∧ x.k ≠ 2 then ((slF s.1 i x (s.2.set i (-1))).1, (s.2.set i (-1)).set i (slF s.1 i x (s.2.set i (-1))).2) else (s.1, s.2.set i (-1))
def slL (xs : List Nd) : Nat → List Nd × List Int
 | 0 => (xs, List.replicate xs.length 0)
 | i + 1 => slS (slL xs i) i (xs.getD i Nd.nil) ((akL xs xs.length).getD i false)
structure SI (xs : List Nd) (i : Nat) (s : List Nd × List Int) : Prop where
 pre : ∃ t, s.1 = xs ++ t
 len : s.1.length ≤ xs.length + 12 * i
 few : ∀ x ∈ s.1, Few x
 dl : s.2.length = xs.length
 rng : ∀ j, -1 ≤ s.2.getD j 0 ∧ s.2.getD j 0 < s.1.length
theorem ae3 {ds : List Int} {i : Nat} {v : Int} {m : Nat} (h : ∀ j, -1 ≤ ds.getD j 0 ∧ ds.getD j 0 < m) (hv : -1 ≤ v ∧ v < m) : ∀ j, -1 ≤ (ds.set i v).getD j 0 ∧ (ds.set i v).getD j 0 < m := by
 intro j
 have := h j
 rw [List.getD_eq_getElem?_getD, List.getElem?_set] at *
 split
 ·split
  ·simpa using hv
  ·rename_i e g
   subst e
   rw [List.getElem?_eq_none (by omega)] at this
   exact this
 ·exact this
theorem SI.step (hc : ∀ n : Int, -1 ≤ n → n ≤ 64 → Few (cN n)) {xs : List Nd} {i : Nat} {s : List Nd × List Int} (h : SI xs i s) (x : Nd) (ask : Bool) (hn : x.k = 7 → 0 ≤ x.n ∧ x.n ≤ 64) : SI xs (i + 1) (slS s i x ask) := by
 unfold slS
 have r1 := ae3 (i := i) (v := -1) h.rng (by omega)
 split
 ·have g := da.slF hc (i := i) hn r1
  have l := g.len
  obtain ⟨⟨t, e, tl, tf⟩, g2⟩ := g
  generalize slF s.1 i x (s.2.set i (-1)) = r at *
  obtain ⟨t0, e0⟩ := h.pre
  refine ⟨⟨t0 ++ t, by dsimp only; rw [e, e0, List.append_assoc]⟩, by have := h.len; dsimp only; omega, fun y hy => ?_, by simp [h.dl], ?_⟩
  ·dsimp only at hy; rw [e] at hy
   rcases List.mem_append.1 hy with q | q
   ·exact h.few y q
   ·exact tf y q
  ·exact ae3 (m := r.1.length) (ds := s.2.set i (-1)) (fun j => ⟨(r1 j).1, by have := (r1 j).2; omega⟩) g2
 ·exact ⟨h.pre, by have := h.len; dsimp only; omega, h.few, by simp [h.dl], r1⟩
theorem SI.all (hc : ∀ n : Int, -1 ≤ n → n ≤ 64 → Few (cN n)) {xs : List Nd} (n0 : 0 < xs.length) (hf : ∀ x ∈ xs, Few x) (hn : ∀ i, i < xs.length → (xs.getD i Nd.nil).k = 7 → 0 ≤ (xs.getD i Nd.nil).n ∧ (xs.getD i Nd.nil).n ≤ 64) : ∀ i, i ≤ xs.length → SI xs i (slL xs i)
 | 0, _ => ⟨⟨[], by simp [slL]⟩, by simp [slL], hf, by simp [slL], fun j => by
   have : (List.replicate xs.length (0 : Int)).getD j 0 = 0 := by
    rw [List.getD_eq_getElem?_getD, List.getElem?_replicate]; split <;> rfl
   rw [show (slL xs 0).2 = List.replicate xs.length 0 from rfl, this, show (slL xs 0).1 = xs from rfl]; omega⟩
 | i + 1, h => (SI.all hc n0 hf hn i (by omega)).step hc _ _ (hn i (by omega))
end Go.Ev.Ar

namespace Go.Ev.Ar
open Go Go.Ev Go.Proofs
def a05 : List D := [.int .i64 2, .int .i64 0, .int .i64 0, .int .i64 0, .bool false, .nil, .int .i64 0, .bool false, .nil, .int .i64 0]
def slR (es : List Nd) (d : Int) : D :=
 if d = -1 then .tup [.slice 1 a05, .bool true]
 else if fu (es.take (d + 1).toNat) = true then .tup [nsl (es.take (d + 1).toNat), .bool true] else .tup [.slice 0 [], .bool false]
theorem a33 (n : Nat) : jb (n : Int).toNat (nc [.int .i64]) = fa iC (List.replicate n 0) := by
 rw [anr]; unfold ku; simp
theorem a3u (xs : List Nd) : ∀ c ∈ List.flatMap Nd.cells xs, (A.d c).one = true := by
 intro c hc
 obtain ⟨x, _, hx⟩ := List.mem_flatMap.1 hc
 exact di (l := x.cells) rfl c hx
theorem aw1 {ss : List Int} {n : Nat} {a : Int} (v : Int) (hl : ss.length = n) (h0 : 0 ≤ a) (h1 : a < n) : setAt (fa iC ss) (0 + a.toNat * 1) [.d (.int .i64 v)] = fa iC (ss.set a.toNat v) := by
 have := aco (f := iC) (k := 1) akg ss a.toNat v (by omega)
 rw [show ((a.toNat : Nat) : Int) = a by omega] at this; exact this
theorem aw0 {ss : List Int} {n : Nat} {a : Int} (hl : ss.length = n) (h0 : 0 ≤ a) (h1 : a < n) : 0 + a.toNat * 1 + 1 ≤ (fa iC ss).length := by rw [du akg]; omega
theorem a4o {bs : List Bool} {i : Nat} (h : i < bs.length) {v : Bool} (hv : bs.getD i false = v) : ((bs.flatMap bC).drop (((i : Nat) : Int).toNat * 1))[0]? = some (.bool v) := by
 rw [List.getElem?_drop, Int.toNat_natCast, Nat.mul_one, Nat.add_zero]
 have := avr bs i h
 rw [fa, List.getElem?_map, hv] at this
 cases g : (bs.flatMap bC)[i]? with
 | none => rw [g] at this; cases this
 | some c => rw [g] at this; cases this; rfl
theorem a03 (xs : List Nd) (i : Nat) (h : i < xs.length) : (((xs.flatMap Nd.cells).drop ((i : Int).toNat * 10)).drop 0).take 10 = (xs.getD i Nd.nil).cells := cg xs i h
theorem a5v {l : List D} {x : Nd} (h : (l.drop 0).take 10 = x.cells) : (l.drop 0)[0]? = some (.int .i64 x.k) := by
 have : ((l.drop 0).take 10)[0]? = some (.int .i64 x.k) := by rw [h] <;> rfl
 rw [List.getElem?_take] at this; exact this
theorem axo : ∀ (es : List Nd) (K : Nat), (es.flatMap Nd.cells).take (K * 10) = (es.take K).flatMap Nd.cells
 | _, 0 => by simp
 | [], _ + 1 => by simp
 | e :: es, K + 1 => by
  have l := Nd.len e
  rw [List.flatMap_cons, List.take_append, List.take_succ_cons, List.flatMap_cons, l, show (K + 1) * 10 - 10 = K * 10 by omega, axo es K, List.take_of_length_le (by omega)]
theorem aeu (es : List Nd) (K : Nat) : D.slice ((K : Int) - 0).toNat (((es.flatMap Nd.cells).drop (0 + Int.toNat 0 * 10)).take (((K : Int) - 0).toNat * 10)) = D.slice (K : Int).toNat ((es.take K).flatMap Nd.cells) := by
 rw [show ((K : Int) - 0).toNat = K by omega, Int.toNat_natCast, ← axo] <;> rfl
structure ND (xs : List Nd) (i : Nat) : Prop where
 k : 1 ≤ (xs.getD i Nd.nil).k ∧ (xs.getD i Nd.nil).k ≤ 10
 a : 3 ≤ (xs.getD i Nd.nil).k → 0 ≤ (xs.getD i Nd.nil).a ∧ (xs.getD i Nd.nil).a < i
 b : 3 ≤ (xs.getD i Nd.nil).k → (xs.getD i Nd.nil).k ≤ 6 → 0 ≤ (xs.getD i Nd.nil).b ∧ (xs.getD i Nd.nil).b < i
 n : (xs.getD i Nd.nil).k = 7 → 0 ≤ (xs.getD i Nd.nil).n ∧ (xs.getD i Nd.nil).n ≤ 64
theorem a0k {xs : List Nd} {i : Nat} (h : dy (xs.getD i Nd.nil) i = true) : ND xs i := by
 unfold dy at h
 simp only [Bool.and_eq_true, Bool.or_eq_true, Bool.not_eq_true', decide_eq_true_eq, decide_eq_false_iff_not] at h
 obtain ⟨⟨⟨⟨h1, _⟩, h2⟩, h3⟩, h4⟩ := h
 refine ⟨h1, fun g => by omega, fun g g' => by omega, fun g => ?_⟩
 rw [if_pos g, decide_eq_true_eq] at h4; exact h4
set_option maxRecDepth 10000 in
set_option maxHeartbeats 16000000 in
theorem aq2 (xs : List Nd) (hl : ∀ x ∈ xs, Few x) (hx : fu xs = true) {es : List Nd} {d : Int} (hes : (slL xs xs.length).1 = es) (hd : (slL xs xs.length).2.getD (xs.length - 1) 0 = d) :
  Sim Tryz.prog G0 (slR es d).sc 58 [nsl xs] (slR es d) := by
 have hx0 := hx
 unfold fu at hx
 simp only [Bool.and_eq_true, decide_eq_true_eq, List.all_eq_true, List.mem_range] at hx
 obtain ⟨⟨n0, n40⟩, hall⟩ := hx
 have s0 := ud xs (by omega) hl
 rw [hx0] at s0
 have nd : ∀ i, i < xs.length → ND xs i := fun i hi => a0k (hall i hi)
 have s1 := atg xs n0 (by omega) (fun i hi h3 => by
  have g := nd i hi
  have ga := g.a h3
  exact ⟨by omega, fun h6 => by have := g.b h3 h6; omega⟩)
 have inv := SI.all a26 n0 hl (fun i hi => (nd i hi).n)
 refine ao (hs := rfl) af Tryz.func58 ?_
 repeat' ((conv => whnf); first | with_reducible refine ag.data ?_ | refine aa.mk _ _ (s0) ?_ | refine aa.mk _ _ (s1) ?_ | ((with_reducible show EqE (jb _ _) _); refine EqE.mk _ (a33 xs.length) ?_) | refine Cd.mk (a3u xs) ?_ | refine Cd.mk (show (List.flatMap Nd.cells xs).length = xs.length * 10 from vh Nd.len xs) ?_ | refine rgE ?_ | refine Cd.mk rfl ?_ | refine Br.f ?_ | refine EqE.mk _ rfl ?_ | refine Cd.ol ?_ | refine Cd.os ?_)
 refine ⟨[], [0, 4, 5, 21, 22, 23], [14, 16, 19], fun m ys h => ∃ (i : Nat) (es : List Nd) (ds : List Int), m = xs.length - i ∧ i ≤ xs.length ∧ slL xs i = (es, ds) ∧
   ys = [.d (nsl xs), .ptr 16 0, .own 19 0 xs.length 1, .d (bsl (akL xs xs.length) xs.length), .d (.int .i64 xs.length), .d (.int .i64 i)] ∧
   (h = [(19, false, fa iC ds), (16, false, [.own 14 0 es.length 10]), (14, false, fa Nd.cells es)] ∨ h = [(16, false, [.own 14 0 es.length 10]), (14, false, fa Nd.cells es), (19, false, fa iC ds)]),
  ⟨_, _, _, ⟨.inl rfl, rfl, rfl, by first | exact az _ _ _ _ _ _ (qq rfl (az _ _ _ _ _ _ rfl)) | skip⟩, 0, xs, List.replicate xs.length 0, rfl, by omega, rfl, rfl, .inl rfl⟩, ?_⟩
 rintro m ys h ⟨i, es, ds, rfl, hi, hs, rfl, hh⟩
 have I := inv i hi
 rw [hs] at I
 by_cases hlt : i < xs.length
 ·have g := nd i hlt
  have hnx : slL xs (i + 1) = slS (es, ds) i (xs.getD i Nd.nil) ((akL xs xs.length).getD i false) := by rw [slL, hs]
  have hpre : es.getD i Nd.nil = xs.getD i Nd.nil := by
   obtain ⟨t, e⟩ := I.pre
   dsimp only at e
   rw [e, List.getD_eq_getElem?_getD, List.getElem?_append_left hlt, List.getD_eq_getElem?_getD]
  have hle : xs.length ≤ es.length ∧ es.length ≤ xs.length + 12 * i := by
   obtain ⟨t, e⟩ := I.pre
   dsimp only at e
   exact ⟨by rw [e, List.length_append]; omega, I.len⟩
  have hdl : ds.length = xs.length := I.dl
  have S1 : setAt (fa iC ds) (0 + ((i : Nat) : Int).toNat * 1) [.d (.int .i64 (-1))] = fa iC (ds.set i (-1)) := aw1 (a := (i : Int)) (-1) hdl (by omega) (by omega)
  have E1 : 0 + ((i : Nat) : Int).toNat * 1 + 1 ≤ (fa iC ds).length := aw0 (a := (i : Int)) hdl (by omega) (by omega)
  have hbl := aau xs xs.length
  have T1 := a03 xs i hlt
  obtain ⟨bs, hbs⟩ : ∃ bs, akL xs xs.length = bs := ⟨_, rfl⟩
  obtain ⟨t, ht⟩ : ∃ t, bs.getD i false = t := ⟨_, rfl⟩
  rw [hbs] at hbl hnx
  simp only [hbs]
  rw [ht] at hnx
  have L1 := a4o (bs := bs) (i := i) (by omega) ht
  have B1 : ((0 : Int) ≤ (i : Int) ∧ (i : Int) < (xs.length : Int)) ∧ ((i : Nat) : Int).toNat * 1 < (bs.flatMap bC).length := by rw [vh aju]; omega
  have lxs : (ds.set i (-1)).length = xs.length := by rw [List.length_set, hdl]
  obtain ⟨D', hD⟩ : ∃ D', ds.set i (-1) = D' := ⟨_, rfl⟩
  rw [hD] at S1 lxs
  cases t
  ·have hnx' : slL xs (i + 1) = (es, D') := by rw [hnx]; unfold slS; rw [if_neg (by simp)]; exact congrArg _ hD
   rcases hh with rfl | rfl
   ·repeat' ((conv => whnf); first | ((with_reducible refine Br.ck ?hpp ?_); case hpp => first | omega | (dsimp only; omega)) | refine Cd.mk B1 ?_ | ((with_reducible show ah (List.drop _ (List.flatMap bC bs)) _ _); refine ah.mk _ L1 ?_) | refine Cd.mk E1 ?_ | refine an.go _ _ ⟨.inl rfl, rfl, rfl, by first | exact az _ _ _ _ _ _ (qq rfl (az _ _ _ _ _ _ rfl)) | exact qq rfl (az _ _ _ _ _ _ (az _ _ _ _ _ _ rfl))⟩ ?_ | refine rgE ?_ | refine Cd.mk rfl ?_ | refine Br.f ?_ | ((with_reducible refine EqE.idW ?_); refine EqE.mk ((i : Int) + 1) (aj (by omega) (by omega)) ?_) | ((with_reducible refine EqE.idS ?_); ((with_reducible show EqE (setAt (fa iC ds) _ _) _); refine EqE.mk _ S1 ?_)) | refine Cd.os ?_)
    exact ⟨_, ⟨i + 1, es, D', rfl, by omega, hnx', rfl, .inl rfl⟩, by omega⟩
   ·repeat' ((conv => whnf); first | ((with_reducible refine Br.ck ?hpp ?_); case hpp => first | omega | (dsimp only; omega)) | refine Cd.mk B1 ?_ | ((with_reducible show ah (List.drop _ (List.flatMap bC bs)) _ _); refine ah.mk _ L1 ?_) | refine Cd.mk E1 ?_ | refine an.go _ _ ⟨.inl rfl, rfl, rfl, by first | exact az _ _ _ _ _ _ (qq rfl (az _ _ _ _ _ _ rfl)) | exact qq rfl (az _ _ _ _ _ _ (az _ _ _ _ _ _ rfl))⟩ ?_ | refine rgE ?_ | refine Cd.mk rfl ?_ | refine Br.f ?_ | ((with_reducible refine EqE.idW ?_); refine EqE.mk ((i : Int) + 1) (aj (by omega) (by omega)) ?_) | ((with_reducible refine EqE.idS ?_); ((with_reducible show EqE (setAt (fa iC ds) _ _) _); refine EqE.mk _ S1 ?_)) | refine Cd.os ?_)
    exact ⟨_, ⟨i + 1, es, D', rfl, by omega, hnx', rfl, .inr rfl⟩, by omega⟩
  ·have gk := g.k
   have ga := g.a
   have gb := g.b
   have gn := g.n
   obtain ⟨x, hx⟩ : ∃ x, xs.getD i Nd.nil = x := ⟨_, rfl⟩
   rw [hx] at gk ga gb gn hnx hpre T1
   have K1 := a5v T1
   by_cases k2 : x.k = 2
   ·have hnx' : slL xs (i + 1) = (es, D') := by rw [hnx]; unfold slS; rw [if_neg (fun h => h.2 k2)]; exact congrArg _ hD
    clear hpre hnx hx
    obtain ⟨k, a, b, n', ⟨b1, l1, e1, c1, k1, f1⟩⟩ := x
    dsimp only at k2
    rcases hh with rfl | rfl
    ·repeat' ((conv => whnf); first | with_reducible refine Br.ac1 (fun h => absurd k2 h) (fun _ => ?_) | ((with_reducible refine Br.ck ?hpp ?_); case hpp => first | omega | (dsimp only; omega)) | refine Cd.mk B1 ?_ | ((with_reducible show ah (List.drop _ (List.flatMap bC bs)) _ _); refine ah.mk _ L1 ?_) | refine Cd.mk E1 ?_ | refine an.go _ _ ⟨.inl rfl, rfl, rfl, by first | exact az _ _ _ _ _ _ (qq rfl (az _ _ _ _ _ _ rfl)) | exact qq rfl (az _ _ _ _ _ _ (az _ _ _ _ _ _ rfl))⟩ ?_ | refine Cd.mk (ba xs _ (by omega)) ?_ | ((with_reducible show ah (List.drop _ (List.drop _ (List.flatMap Nd.cells _))) _ _); refine ah.mk _ K1 ?_) | refine rgE ?_ | refine Cd.mk rfl ?_ | refine Br.t ?_ | ((with_reducible refine EqE.idW ?_); refine EqE.mk ((i : Int) + 1) (aj (by omega) (by omega)) ?_) | ((with_reducible refine EqE.idS ?_); ((with_reducible show EqE (setAt (fa iC ds) _ _) _); refine EqE.mk _ S1 ?_)) | refine Cd.os ?_)
     exact ⟨_, ⟨i + 1, es, D', rfl, by omega, hnx', rfl, .inl rfl⟩, by omega⟩
    ·repeat' ((conv => whnf); first | with_reducible refine Br.ac1 (fun h => absurd k2 h) (fun _ => ?_) | ((with_reducible refine Br.ck ?hpp ?_); case hpp => first | omega | (dsimp only; omega)) | refine Cd.mk B1 ?_ | ((with_reducible show ah (List.drop _ (List.flatMap bC bs)) _ _); refine ah.mk _ L1 ?_) | refine Cd.mk E1 ?_ | refine an.go _ _ ⟨.inl rfl, rfl, rfl, by first | exact az _ _ _ _ _ _ (qq rfl (az _ _ _ _ _ _ rfl)) | exact qq rfl (az _ _ _ _ _ _ (az _ _ _ _ _ _ rfl))⟩ ?_ | refine Cd.mk (ba xs _ (by omega)) ?_ | ((with_reducible show ah (List.drop _ (List.drop _ (List.flatMap Nd.cells _))) _ _); refine ah.mk _ K1 ?_) | refine rgE ?_ | refine Cd.mk rfl ?_ | refine Br.t ?_ | ((with_reducible refine EqE.idW ?_); refine EqE.mk ((i : Int) + 1) (aj (by omega) (by omega)) ?_) | ((with_reducible refine EqE.idS ?_); ((with_reducible show EqE (setAt (fa iC ds) _ _) _); refine EqE.mk _ S1 ?_)) | refine Cd.os ?_)
     exact ⟨_, ⟨i + 1, es, D', rfl, by omega, hnx', rfl, .inr rfl⟩, by omega⟩
   ·have sl := azv (es := es) (ds := D') (i := i) (n := x) (by omega) (by omega) hpre ⟨gk.1, gk.2, k2⟩ (fun h => by have := ga h; omega) (fun h h' => by have := gb h h'; omega) gn
    have hnx' : slL xs (i + 1) = ((slF es i x D').1, D'.set i (slF es i x D').2) := by rw [hnx]; unfold slS; rw [if_pos ⟨rfl, k2⟩]; dsimp only; rw [hD]
    obtain ⟨r, hr⟩ : ∃ r, slF es i x D' = r := ⟨_, rfl⟩
    rw [hr] at sl hnx'
    have sl2 : ji Tryz.prog G0 108 [.ptr 1000000 0, .d (.int .i64 i), .own 1000001 0 xs.length 1] (bS es D') (.d (.int .i64 r.2)) (bS r.1 D') := by rw [← lxs]; exact sl
    have S2 : setAt (fa iC D') (0 + ((i : Nat) : Int).toNat * 1) [.d (.int .i64 r.2)] = fa iC (D'.set i r.2) := aw1 (a := (i : Int)) r.2 lxs (by omega) (by omega)
    have E2 : 0 + ((i : Nat) : Int).toNat * 1 + 1 ≤ (fa iC D').length := aw0 (a := (i : Int)) lxs (by omega) (by omega)
    clear hpre hnx hx hr sl
    obtain ⟨k, a, b, n', ⟨b1, l1, e1, c1, k1, f1⟩⟩ := x
    dsimp only at k2
    rcases hh with rfl | rfl
    ·repeat' ((conv => whnf); first | refine ag.own (jl.au (sl2) [(1000000, 16), (2000000, 14), (1000001, 19)] [] (.d (.int .i64 r.2)) [(16, false, [.own 14 0 r.1.length 10]), (14, false, fa Nd.cells r.1), (19, false, fa iC D')] [] ?_) | with_reducible refine Br.ac1 (fun _ => ?_) (fun h => absurd h k2) | ((with_reducible refine Br.ck ?hpp ?_); case hpp => first | omega | (dsimp only; omega)) | refine Cd.mk B1 ?_ | ((with_reducible show ah (List.drop _ (List.flatMap bC bs)) _ _); refine ah.mk _ L1 ?_) | refine Cd.mk E1 ?_ | refine an.go _ _ ⟨.inl rfl, rfl, rfl, by first | exact az _ _ _ _ _ _ (qq rfl (az _ _ _ _ _ _ rfl)) | exact qq rfl (az _ _ _ _ _ _ (az _ _ _ _ _ _ rfl))⟩ ?_ | refine Cd.mk (ba xs _ (by omega)) ?_ | ((with_reducible show ah (List.drop _ (List.drop _ (List.flatMap Nd.cells _))) _ _); refine ah.mk _ K1 ?_) | refine Cd.mk E2 ?_ | refine rgE ?_ | refine Cd.mk rfl ?_ | refine Br.t ?_ | ((with_reducible refine EqE.idW ?_); refine EqE.mk ((i : Int) + 1) (aj (by omega) (by omega)) ?_) | ((with_reducible refine EqE.idS ?_); first | ((with_reducible show EqE (setAt (fa iC ds) _ _) _); refine EqE.mk _ S1 ?_) | ((with_reducible show EqE (setAt (fa iC D') _ _) _); refine EqE.mk _ S2 ?_)) | refine Cd.os ?_)
     exact ⟨_, ⟨i + 1, r.1, D'.set i r.2, rfl, by omega, hnx', rfl, .inr rfl⟩, by omega⟩
    ·repeat' ((conv => whnf); first | refine ag.own (jl.au (sl2) [(1000000, 16), (2000000, 14), (1000001, 19)] [] (.d (.int .i64 r.2)) [(16, false, [.own 14 0 r.1.length 10]), (14, false, fa Nd.cells r.1), (19, false, fa iC D')] [] ?_) | with_reducible refine Br.ac1 (fun _ => ?_) (fun h => absurd h k2) | ((with_reducible refine Br.ck ?hpp ?_); case hpp => first | omega | (dsimp only; omega)) | refine Cd.mk B1 ?_ | ((with_reducible show ah (List.drop _ (List.flatMap bC bs)) _ _); refine ah.mk _ L1 ?_) | refine Cd.mk E1 ?_ | refine an.go _ _ ⟨.inl rfl, rfl, rfl, by first | exact az _ _ _ _ _ _ (qq rfl (az _ _ _ _ _ _ rfl)) | exact qq rfl (az _ _ _ _ _ _ (az _ _ _ _ _ _ rfl))⟩ ?_ | refine Cd.mk (ba xs _ (by omega)) ?_ | ((with_reducible show ah (List.drop _ (List.drop _ (List.flatMap Nd.cells _))) _ _); refine ah.mk _ K1 ?_) | refine Cd.mk E2 ?_ | refine rgE ?_ | refine Cd.mk rfl ?_ | refine Br.t ?_ | ((with_reducible refine EqE.idW ?_); refine EqE.mk ((i : Int) + 1) (aj (by omega) (by omega)) ?_) | ((with_reducible refine EqE.idS ?_); first | ((with_reducible show EqE (setAt (fa iC ds) _ _) _); refine EqE.mk _ S1 ?_) | ((with_reducible show EqE (setAt (fa iC D') _ _) _); refine EqE.mk _ S2 ?_)) | refine Cd.os ?_)
     exact ⟨_, ⟨i + 1, r.1, D'.set i r.2, rfl, by omega, hnx', rfl, .inr rfl⟩, by omega⟩
 ·obtain rfl : i = xs.length := by omega
  rw [hs] at hes hd
  dsimp only at hes hd
  subst hes
  have hr := I.rng (xs.length - 1)
  dsimp only at hr
  rw [hd] at hr
  have hlen : es.length ≤ xs.length + 12 * xs.length := I.len
  have LD : (fa iC ds)[0 + ((xs.length : Int) - 1).toNat * 1]? = some (.d (.int .i64 d)) := ua (by omega) (by have := I.dl; dsimp only at this; omega) (by rw [show ((xs.length : Int) - 1).toNat = xs.length - 1 by omega]; exact hd)
  by_cases d1 : d = -1
  ·subst d1
   rw [show slR es (-1) = .tup [.slice 1 a05, .bool true] from rfl]
   rcases hh with rfl | rfl
   ·repeat' ((conv => whnf); first | ((with_reducible refine Br.ck ?hpp ?_); case hpp => first | omega | (dsimp only; omega)) | ((with_reducible refine Br.b4 ?hpp ?_); case hpp => first | omega | (dsimp only; omega)) | ((with_reducible show ah (fa iC ds) _ _); refine ah.mk _ LD ?_) | refine DsE.mk [_, _, _, _, _, _, _, _, _, _] rfl ?_ | refine rgE ?_ | refine Cd.mk rfl ?_ | refine Res.mk ?_ | ((with_reducible refine EqE.idW ?_); refine EqE.mk ((xs.length : Int) - 1) (aj (by omega) (by omega)) ?_) | ((with_reducible refine EqE.idL ?_); refine EqE.mk _ rfl ?_) | refine Cd.ol ?_ | refine Cd.os ?_)
    all_goals rfl
   ·repeat' ((conv => whnf); first | ((with_reducible refine Br.ck ?hpp ?_); case hpp => first | omega | (dsimp only; omega)) | ((with_reducible refine Br.b4 ?hpp ?_); case hpp => first | omega | (dsimp only; omega)) | ((with_reducible show ah (fa iC ds) _ _); refine ah.mk _ LD ?_) | refine DsE.mk [_, _, _, _, _, _, _, _, _, _] rfl ?_ | refine rgE ?_ | refine Cd.mk rfl ?_ | refine Res.mk ?_ | ((with_reducible refine EqE.idW ?_); refine EqE.mk ((xs.length : Int) - 1) (aj (by omega) (by omega)) ?_) | ((with_reducible refine EqE.idL ?_); refine EqE.mk _ rfl ?_) | refine Cd.ol ?_ | refine Cd.os ?_)
    all_goals rfl
  ·have kk : 0 ≤ d + 1 ∧ d + 1 ≤ es.length := by omega
   obtain ⟨K, hK⟩ : ∃ K : Nat, (K : Int) = d + 1 := ⟨(d + 1).toNat, by omega⟩
   have s2 := ud (es.take K) (by rw [List.length_take]; omega) (fun x hx => I.few x (List.mem_of_mem_take hx))
   have hKt : (d + 1).toNat = K := by omega
   unfold slR
   rw [if_neg d1, hKt]
   obtain ⟨t, ht⟩ : ∃ t, fu (es.take K) = t := ⟨_, rfl⟩
   rw [ht] at s2 ⊢
   have hn2 : nsl (es.take K) = .slice (K : Int).toNat ((es.take K).flatMap Nd.cells) := by unfold nsl; rw [List.length_take, Nat.min_eq_left (by omega), Int.toNat_natCast]
   rw [hn2] at s2 ⊢
   cases t
   ·rw [if_neg (by decide)]
    rcases hh with rfl | rfl
    ·repeat' ((conv => whnf); first | with_reducible refine ag.data ?_ | ((with_reducible refine Br.b4 ?hpp ?_); case hpp => first | omega | (dsimp only; omega)) | ((with_reducible show ah (fa iC ds) _ _); refine ah.mk _ LD ?_) | ((with_reducible show DsE (fa Nd.cells _) _); refine DsE.mk (es.flatMap Nd.cells) rfl ?_) | ((with_reducible show EqE (D.slice _ _) _); refine EqE.mk _ (aeu es K) ?_) | refine aa.mk _ _ (s2) ?_ | refine rgE ?_ | refine Cd.mk rfl ?_ | refine Br.t ?_ | refine ah.mk _ rfl ?_ | refine Res.mk ?_ | ((with_reducible refine EqE.idW ?_); first | refine EqE.mk ((xs.length : Int) - 1) (aj (by omega) (by omega)) ?_ | refine EqE.mk (K : Int) ((aj (by omega) (by omega)).trans hK.symm) ?_) | refine Cd.os ?_)
     all_goals rfl
    ·repeat' ((conv => whnf); first | with_reducible refine ag.data ?_ | ((with_reducible refine Br.b4 ?hpp ?_); case hpp => first | omega | (dsimp only; omega)) | ((with_reducible show ah (fa iC ds) _ _); refine ah.mk _ LD ?_) | ((with_reducible show DsE (fa Nd.cells _) _); refine DsE.mk (es.flatMap Nd.cells) rfl ?_) | ((with_reducible show EqE (D.slice _ _) _); refine EqE.mk _ (aeu es K) ?_) | refine aa.mk _ _ (s2) ?_ | refine rgE ?_ | refine Cd.mk rfl ?_ | refine Br.t ?_ | refine ah.mk _ rfl ?_ | refine Res.mk ?_ | ((with_reducible refine EqE.idW ?_); first | refine EqE.mk ((xs.length : Int) - 1) (aj (by omega) (by omega)) ?_ | refine EqE.mk (K : Int) ((aj (by omega) (by omega)).trans hK.symm) ?_) | refine Cd.os ?_)
     all_goals rfl
   ·rw [if_pos rfl]
    rcases hh with rfl | rfl
    ·repeat' ((conv => whnf); first | with_reducible refine ag.data ?_ | ((with_reducible refine Br.b4 ?hpp ?_); case hpp => first | omega | (dsimp only; omega)) | ((with_reducible show ah (fa iC ds) _ _); refine ah.mk _ LD ?_) | ((with_reducible show DsE (fa Nd.cells _) _); refine DsE.mk (es.flatMap Nd.cells) rfl ?_) | ((with_reducible show EqE (D.slice _ _) _); refine EqE.mk _ (aeu es K) ?_) | refine aa.mk _ _ (s2) ?_ | refine rgE ?_ | refine Cd.mk rfl ?_ | refine Br.f ?_ | refine ah.mk _ rfl ?_ | refine Res.mk ?_ | ((with_reducible refine EqE.idW ?_); first | refine EqE.mk ((xs.length : Int) - 1) (aj (by omega) (by omega)) ?_ | refine EqE.mk (K : Int) ((aj (by omega) (by omega)).trans hK.symm) ?_) | refine Cd.os ?_)
     all_goals rfl
    ·repeat' ((conv => whnf); first | with_reducible refine ag.data ?_ | ((with_reducible refine Br.b4 ?hpp ?_); case hpp => first | omega | (dsimp only; omega)) | ((with_reducible show ah (fa iC ds) _ _); refine ah.mk _ LD ?_) | ((with_reducible show DsE (fa Nd.cells _) _); refine DsE.mk (es.flatMap Nd.cells) rfl ?_) | ((with_reducible show EqE (D.slice _ _) _); refine EqE.mk _ (aeu es K) ?_) | refine aa.mk _ _ (s2) ?_ | refine rgE ?_ | refine Cd.mk rfl ?_ | refine Br.f ?_ | refine ah.mk _ rfl ?_ | refine Res.mk ?_ | ((with_reducible refine EqE.idW ?_); first | refine EqE.mk ((xs.length : Int) - 1) (aj (by omega) (by omega)) ?_ | refine EqE.mk (K : Int) ((aj (by omega) (by omega)).trans hK.symm) ?_) | refine Cd.os ?_)
     all_goals rfl
end Go.Ev.Ar

namespace Go.Ev.Ar
open Go Go.Ev Go.Proofs
theorem au9 (xs : List Nd) (hn : xs.length < 2^62) (hl : ∀ x ∈ xs, Few x) (hx : fu xs = false) :
  Sim Tryz.prog G0 (D.tup [.slice 0 [], .bool false]).sc 58 [nsl xs] (.tup [.slice 0 [], .bool false]) := by
 have s0 := ud xs hn hl
 rw [hx] at s0
 refine ao (hs := rfl) af Tryz.func58 ?_
 repeat' ((conv => whnf); first | with_reducible refine ag.data ?_ | refine aa.mk _ _ (s0) ?_ | refine rgE ?_ | refine Br.t ?_ | refine Res.mk ?_)
 all_goals rfl
theorem anz {P : Program} {G : bb} {fr : Bool} {f : FuncId} {args : List D} {r r' : D} (h : Sim P G fr f args r) (k : ∀ S w v, DR S w r v → DR S w r' v) : Sim P G fr f args r' := by
 refine ⟨h.can, fun S w vs a b c => Calls.mono (h.run S w vs a b c) ?_⟩
 rintro e w' ⟨v, he, hb, S', hS, hr⟩
 exact ⟨v, he, hb, S', hS, k S' w' v hr⟩
theorem a2p {S : Imm} {w : World} {v : Value} (h : DR S w .nil v) : DR S w (.slice 0 []) v := avf (x := .nil) h
def axs : D → D
 | .nil => .slice 0 []
 | x => x
theorem ajo {S : Imm} {w : World} {b : Nat} : ∀ (l : List D) (o : Nat), DRL S w b o l → DRL S w b o (l.map axs)
 | [], _, _ => trivial
 | x :: l, o, h => by
  simp only [DRL, List.map_cons] at h ⊢
  obtain ⟨h1, ⟨u, h2, h3⟩, h4⟩ := h
  refine ⟨h1, ⟨u, h2, ?_⟩, ajo l _ h4⟩
  cases x <;> first | exact a2p h3 | exact h3
theorem axr {S : Imm} {w : World} {v : Value} (h : DR S w (.tup [.slice 1 a05, .bool true]) v) : DR S w (.tup [nsl [⟨2, 0, 0, 0, RC.nil⟩], .bool true]) v := by
 simp only [DR, DRs] at h ⊢
 obtain ⟨vs, hv, u, us, e1, ⟨a, c, hu, hc, hcells⟩, rest⟩ := h
 refine ⟨vs, hv, u, us, e1, ?_, rest⟩
 show DR S w (.slice 1 _) u
 simp only [DR]
 refine ⟨a, c, hu, hc, ?_⟩
 rcases hcells with h | ⟨b, o, ha, hL⟩
 ·cases h
 ·refine .inr ⟨b, o, ha, ?_⟩
  show DRL S w b o [.int .i64 2, .int .i64 0, .int .i64 0, .int .i64 0, .bool false, .slice 0 [], .int .i64 0, .bool false, .slice 0 [], .int .i64 0]
  exact ajo a05 o hL
def slT (es : List Nd) (d : Int) : D :=
 if d = -1 then .tup [nsl [⟨2, 0, 0, 0, RC.nil⟩], .bool true]
 else if fu (es.take (d + 1).toNat) = true then .tup [nsl (es.take (d + 1).toNat), .bool true] else .tup [.slice 0 [], .bool false]
theorem ajj (xs : List Nd) (hl : ∀ x ∈ xs, Few x) (hx : fu xs = true) {es : List Nd} {d : Int} (hes : (slL xs xs.length).1 = es) (hd : (slL xs xs.length).2.getD (xs.length - 1) 0 = d) :
  Sim Tryz.prog G0 (slR es d).sc 58 [nsl xs] (slT es d) := by
 refine anz (aq2 xs hl hx hes hd) fun S w v h => ?_
 unfold slR at h
 unfold slT
 split
 ·rename_i g
  rw [if_pos g] at h
  exact axr h
 ·rename_i g
  rw [if_neg g] at h
  exact h
end Go.Ev.Ar

namespace Go.Ev.Ar
open Go Go.Ev Go.Proofs
def bxD (a : Cq) (h : Dyadic) : D := .agg [.bool (a7 (ak a.1)), sl (ofN (ak a.1).natAbs), .int .i64 (av a.1), .bool (a7 (ak a.2)), sl (ofN (ak a.2).natAbs), .int .i64 (av a.2), .bool (a7 (ak h)), sl (ofN (ak h).natAbs), .int .i64 (av h)]
inductive BxR : D → Cq → Dyadic → Prop where
 | mk {b : Bool} {l : List UInt32} {e : Int} {c : Bool} {k : List UInt32} {f : Int} {b' : Bool} {l' : List UInt32} {e' : Int} {z : Cq} {h : Dyadic}
  (h1 : CxR (.agg [.bool b, sl l, .int .i64 e, .bool c, sl k, .int .i64 f]) z) (h2 : DyR (.agg [.bool b', sl l', .int .i64 e']) h) :
  BxR (.agg [.bool b, sl l, .int .i64 e, .bool c, sl k, .int .i64 f, .bool b', sl l', .int .i64 e']) z h
theorem BxR.of {a : Cq} {h : Dyadic} (ha : Hc 1048576 a) (hh : Ht 1048576 h) : BxR (bxD a h) a h := .mk (.of ha) (.of hh)
def hf (h : Dyadic) : Dyadic := if h = 0 then dof 1 0 else gz h
end Go.Ev.Ar

namespace Go.Ev.Ar
open Go Go.Ev Go.Proofs
theorem tw {r : RC} (h : r.few 2 40 = true) : CxR (.agg r.cells) r.val ∧ CxF (.agg r.cells) r.val ∧ Hc 104 r.val := ⟨RC.cxR 40 (by decide) (by decide) (by decide) h, azy 40 (by decide) (by decide) (by decide) h, RC.hc 40 104 (by decide) (by decide) h⟩
abbrev KN : Prop := Sim Tryz.prog G0 true 43 [] (.bool true)
end Go.Ev.Ar

namespace Go.Ev.Ar
open Go Go.Ev Go.Proofs
theorem ama {xs : List Nd} {z : Cq} (hx : ∀ i, i < xs.length → dy (xs.getD i Nd.nil) i = true) (hz : Hc 104 z) (hc : ∀ i, i < xs.length → Hc 104 (xs.getD i Nd.nil).r.val) (hb : ∀ i, i < xs.length → ef (szL xs i) (xs.getD i Nd.nil) i ≤ 60) : ∀ i, i ≤ xs.length → ∀ vs, wq xs z i = some vs → vs.length = i ∧ Fit (szL xs i) vs
 | 0, _, vs, h => by cases h; exact ⟨rfl, Fit.nil⟩
 | i + 1, hi, vs, h => by
  unfold wq at h
  rw [Option.bind_eq_some_iff] at h
  obtain ⟨us, hu, h⟩ := h
  rw [Option.map_eq_some_iff] at h
  obtain ⟨r, hr, rfl⟩ := h
  obtain ⟨hl, hf⟩ := ama hx hz hc hb i (by omega) us hu
  unfold sx at hr
  rw [Option.bind_eq_some_iff] at hr
  obtain ⟨r', hv, hr⟩ := hr
  split at hr
  ·cases hr
  ·rename_i hn
   cases hr
   subst hl
   have k := aiw hf (hx _ (by omega)) hz (hc _ (by omega)) (hb _ (by omega)) hv
   exact ⟨by simp, hf.add ⟨k.1, hb _ (by omega)⟩ k.2 hn⟩
end Go.Ev.Ar

namespace Go.Ev.Ar
open Go Go.Ev Go.Proofs
theorem ahe {P : Program} {G : bb} {fr : Bool} {f : FuncId} {args args' : List D} {r : D} (h : Sim P G fr f args r) (k : ∀ S w vs, DRs S w args' vs → DRs S w args vs) : Sim P G fr f args' r :=
 ⟨h.can, fun S w vs a b c => h.run S w vs a b (k S w vs c)⟩
theorem ahy {S : Imm} {w : World} {n : Nat} {cs : List D} {v : Value} (h : DR S w (.slice n cs) v) : DR S w (.slice n (cs.map axs)) v := by
 simp only [DR] at h ⊢
 obtain ⟨a, c, hu, hc, hcells⟩ := h
 refine ⟨a, c, hu, hc, ?_⟩
 rcases hcells with h | ⟨b, o, ha, hL⟩
 ·exact .inl (by rw [h]; rfl)
 ·exact .inr ⟨b, o, ha, ajo _ _ hL⟩
theorem yb {P : Program} {G : bb} {fr : Bool} {f : FuncId} {n : Nat} {cs : List D} {args : List D} {r : D} (h : Sim P G fr f (.slice n (cs.map axs) :: args) r) : Sim P G fr f (.slice n cs :: args) r :=
 ahe h fun S w vs g => by
  simp only [DRs] at g ⊢
  obtain ⟨u, us, e, g1, g2⟩ := g
  exact ⟨u, us, e, ahy g1, g2⟩
set_option maxRecDepth 10000 in
set_option maxHeartbeats 8000000 in
theorem a4k {xs : List Nd} {X : Rq} {p : Int} (hn : xs.length < 2^62) (hl : ∀ x ∈ xs, Few x) (hx : fu xs = false) :
  Sim Tryz.prog G0 false 57 [nsl xs, rqD X, .int .i64 p] (atD (.error 10)) := by
 have s0 := ud xs hn hl
 rw [hx] at s0
 obtain ⟨⟨X1, X2⟩, ⟨X3, X4⟩⟩ := X
 refine ao (hs := (avo _)) af Tryz.func57 ?_
 repeat' ((conv => whnf); first | refine rgE ?_ | refine Cd.mk rfl ?_)
 refine ado af ?_
 repeat' ((conv => whnf); first | with_reducible refine ag.data ?_ | refine aa.mk _ _ (s0) ?_ | refine rgE ?_ | refine Cd.mk rfl ?_ | refine Br.t ?_ | (refine TkE.fL ?_; (conv => whnf); fail_if_success (show ae _ _)) | refine Res.mk ?_ | ((with_reducible refine EqE.idS ?_); (refine EqE.fP ?_; (conv => whnf); fail_if_success (show ae _ _))) | refine Cd.ol ?_)
 all_goals (rw [show atD (.error 10) = D.tup [rqD zR, .int .i64 10] from rfl, ← x7]; rfl)
end Go.Ev.Ar

namespace Go.Ev.Ar
open Go Go.Ev Go.Proofs
def kX : List Nd := [⟨1, 0, 0, 0, RC.nil⟩, ⟨5, 0, 0, 0, RC.nil⟩]
end Go.Ev.Ar

namespace Go.Ev.Ar
open Go Go.Ev Go.Proofs
abbrev d0 : Dyadic := dof 0 0
abbrev d1 : Dyadic := dof 1 0
abbrev dm : Dyadic := dof (-1) 0
theorem ky1 : atL kX (fv (((d0, d0), (d1, d1)) : Rq)) 50 2 = .ok [((d0, d0), (d1, d1)), ((dm, dm), (d0, d0))] := by kernel_rfl
theorem ky2 : exL kX ((d0, d1) : Cq) 2 = some [((d0, d1), ai), ((dm, d0), ai)] := by kernel_rfl
theorem ky3 : (slL kX 2).2.getD 1 0 = 5 := by kernel_rfl
theorem ky4 : atL [⟨1, 0, 0, 0, RC.nil⟩, ⟨6, 0, 0, 0, RC.nil⟩] (fv (((0, 0), (0, 0)) : Rq)) 50 2 = .error 11 := by kernel_rfl
end Go.Ev.Ar

namespace Go.Ev.Ar
open Go Go.Ev Go.Proofs
theorem ata {xs : List Nd} {X : Rq} {p : Int} (hn : xs.length < 2^62) (hl : ∀ x ∈ xs, x.r.l.length < 2^32 ∧ x.r.k.length < 2^32) (hx : fu xs = true) (k7 : ∀ i, i < xs.length → (xs.getD i Nd.nil).k ≤ 7) (hc : ∀ i, i < xs.length → (xs.getD i Nd.nil).k = 2 → Nq (xs.getD i Nd.nil).r.val.1 ∧ Nq (xs.getD i Nd.nil).r.val.2) (hX : Nr X) :
  Sim Tryz.prog G0 false 57 [nsl xs, rqD X, .int .i64 p] (atD (atL xs (fv X) (min (max p 2) 200) xs.length)) :=
 a11 hn hl hx (fun i vs Y R q c hi hv hg hn' gY hq hR => by
  subst hv
  have hci := hc _ hi
  have h2 := a3m (X := Y) (p := q) hg hn' (k7 _ hi) hci gY hq
  rw [hR] at h2
  exact ⟨aq1 (by omega) hn hg hn' (k7 _ hi) (fun k => ⟨(hci k).1.ht, (hci k).2.ht⟩) hq hR, h2.1, h2.2⟩) hX
end Go.Ev.Ar

namespace Go.Ev.Ar
open Go Go.Ev Go.Proofs
def kn2 (k : Int) : List D := [.int .i64 1, .int .i64 0, .int .i64 0, .int .i64 0, .bool false, .nil, .int .i64 0, .bool false, .nil, .int .i64 0, .int .i64 k, .int .i64 0, .int .i64 0, .int .i64 0, .bool false, .nil, .int .i64 0, .bool false, .nil, .int .i64 0]
def kY : List Nd := [⟨1, 0, 0, 0, RC.nil⟩, ⟨6, 0, 0, 0, RC.nil⟩]
theorem ao4 : ∀ x ∈ kX, Few x := by intro x hx; simp only [kX, List.mem_cons, List.not_mem_nil, or_false] at hx; rcases hx with rfl | rfl <;> exact pj ..
theorem a27 : ∀ x ∈ kY, Few x := by intro x hx; simp only [kY, List.mem_cons, List.not_mem_nil, or_false] at hx; rcases hx with rfl | rfl <;> exact pj ..
def rzI : RC := ⟨a7 (ak d0), ofN (ak d0).natAbs, av d0, a7 (ak d1), ofN (ak d1).natAbs, av d1⟩
theorem nq0 : Nq d0 := agm rfl (by decide) (by kernel_rfl)
theorem nq1 : Nq d1 := agm rfl (by decide) (by kernel_rfl)
theorem nqm : Nq dm := agm rfl (by decide) (by kernel_rfl)
theorem kA1 : Sim Tryz.prog G0 false 57 [.slice 2 (kn2 5), rqD ((d0, d0), (d1, d1)), .int .i64 50] (.tup [rqD ((dm, dm), (d0, d0)), .int .i64 0]) := by
 have h := ata (xs := kX) (X := ((d0, d0), (d1, d1))) (p := 50) (by decide) ao4 (by kernel_rfl) (fun i hi => by
  have : i = 0 ∨ i = 1 := by have : kX.length = 2 := rfl; omega
  rcases this with rfl | rfl <;> decide) (fun i hi hk => by
  have : i = 0 ∨ i = 1 := by have : kX.length = 2 := rfl; omega
  rcases this with rfl | rfl <;> exact absurd hk (by decide)) ⟨⟨nq0, nq0⟩, ⟨nq1, nq1⟩⟩
 have e : atL kX (fv ((d0, d0), (d1, d1))) (min (max 50 2) 200) kX.length = .ok [((d0, d0), (d1, d1)), ((dm, dm), (d0, d0))] := ky1
 rw [e] at h
 exact yb (cs := kn2 5) (n := 2) h
theorem kA2 : Sim Tryz.prog G0 false 57 [.slice 0 [], rqD zR, .int .i64 50] (.tup [rqD zR, .int .i64 10]) := a4k (xs := []) (X := zR) (p := 50) (by decide) (by simp) rfl
theorem kA3 : Sim Tryz.prog G0 false 57 [.slice 2 (kn2 6), rqD zR, .int .i64 50] (.tup [rqD zR, .int .i64 11]) := by
 have nz : Nq (0 : Dyadic) := Nq.zero
 have h := ata (xs := kY) (X := zR) (p := 50) (by decide) a27 (by kernel_rfl) (fun i hi => by
  have : i = 0 ∨ i = 1 := by have : kY.length = 2 := rfl; omega
  rcases this with rfl | rfl <;> decide) (fun i hi hk => by
  have : i = 0 ∨ i = 1 := by have : kY.length = 2 := rfl; omega
  rcases this with rfl | rfl <;> exact absurd hk (by decide)) ⟨⟨nz, nz⟩, ⟨nz, nz⟩⟩
 have e : atL kY (fv zR) (min (max 50 2) 200) kY.length = .error 11 := ky4
 rw [e] at h
 exact yb (cs := kn2 6) (n := 2) h
end Go.Ev.Ar

namespace Go.Ev.Ar
open Go Go.Ev Go.Proofs
theorem k2i {i : Nat} (h : i < kX.length) : i = 0 ∨ i = 1 := by have : kX.length = 2 := rfl; omega
theorem a1m : rzI.val = (d0, d1) := by kernel_rfl
theorem kE : Sim Tryz.prog G0 false 47 [.slice 2 (kn2 5), cxD (d0, d1)] (.tup [cxD (dm, d0), cxD ai, .bool true]) := by
 obtain ⟨zR, zF, zH⟩ := tw (r := rzI) (by kernel_rfl)
 rw [a1m] at zR zH
 have h := aq0 (xs := kX) (rz := rzI) (z := (d0, d1)) (by decide) ao4 zR zH (fun i hi => by
  rcases k2i hi with rfl | rfl <;> exact (tw (r := RC.nil) (by kernel_rfl)).2.2) (by kernel_rfl) (fun i hi => by
  rcases k2i hi with rfl | rfl
  ·exact of_decide_eq_true (show decide (ef (szL kX 0) (kX.getD 0 Nd.nil) 0 ≤ 60) = true by kernel_rfl)
  ·exact of_decide_eq_true (show decide (ef (szL kX 1) (kX.getD 1 Nd.nil) 1 ≤ 60) = true by kernel_rfl))
 have e : exL kX (d0, d1) kX.length = some [((d0, d1), ai), ((dm, d0), ai)] := ky2
 rw [e] at h
 exact yb (cs := kn2 5) (n := 2) h
theorem kS : ∃ C, Sim Tryz.prog G0 false 58 [.slice 2 (kn2 5)] (.tup [.slice 6 C, .bool true]) := by
 have h := ajj kX ao4 (by kernel_rfl) (es := (slL kX 2).1) (d := 5) rfl ky3
 have e1 : (slR (slL kX 2).1 5).sc = false := by kernel_rfl
 have e2 : slT (slL kX 2).1 5 = .tup [.slice 6 (((slL kX 2).1.take 6).flatMap Nd.cells), .bool true] := by kernel_rfl
 rw [e1, e2] at h
 exact ⟨_, yb (cs := kn2 5) (n := 2) h⟩
theorem kH : Sim Tryz.prog G0 true 41 [rqD ((dm, dm), (d0, d0)), cxD (dm, d0)] (.bool true) :=
 ayc ⟨⟨nqm.ht.mono (by decide), nqm.ht.mono (by decide)⟩, ⟨nq0.ht.mono (by decide), nq0.ht.mono (by decide)⟩⟩ ⟨nqm.ht.mono (by decide), nq0.ht.mono (by decide)⟩ (by kernel_rfl)
theorem kL : Sim Tryz.prog G0 true 51 [rqD ((dm, d0), ai), rqD ((dm, d0), (d1, d0))] (.bool true) := by
 have t0 : Ht 9000 (dof 0 0) := Ht.mono (show Ht 164 (dof 0 0) from Ht.cst (by decide)) (by decide)
 have t1 : Ht 9000 (dof 1 0) := Ht.mono (show Ht 164 (dof 1 0) from Ht.cst (by decide)) (by decide)
 have t2 : Ht 9000 (dof (-1) 0) := Ht.mono (show Ht 164 (dof (-1) 0) from Ht.cst (by decide)) (by decide)
 exact auf (p := ((dm, d0), ai)) (q := ((dm, d0), (d1, d0))) ⟨⟨t2, t0⟩, se _ (by decide)⟩ ⟨⟨t2, t0⟩, ⟨t1, t0⟩⟩ (by kernel_rfl)
set_option maxRecDepth 10000 in
set_option maxHeartbeats 8000000 in
theorem a5s : KN := by
 have a1 := kA1
 have a2 := kA2
 have a3 := kA3
 have e1 := kE
 obtain ⟨C, s1⟩ := kS
 have h1 := kH
 have l1 := kL
 have o1 : Sim Tryz.prog G0 false 42 [.int .i64 0, .int .i64 1] (cxD (d0, d1)) := vx 0 1 (by decide) (by decide) (by decide) (by decide)
 have o2 : Sim Tryz.prog G0 false 42 [.int .i64 (-1), .int .i64 0] (cxD (dm, d0)) := vx (-1) 0 (by decide) (by decide) (by decide) (by decide)
 have o3 : Sim Tryz.prog G0 false 42 [.int .i64 1, .int .i64 0] (cxD (d1, d0)) := vx 1 0 (by decide) (by decide) (by decide) (by decide)
 have p1 := aue (d0, d1)
 rw [← x7] at a2 a3
 refine ao af Tryz.func43 ?_
 repeat' ((conv => whnf); first | with_reducible refine ag.data ?_ | refine aa.mk _ _ (a1) ?_ | refine aa.mk _ _ (a2) ?_ | refine aa.mk _ _ (a3) ?_ | refine aa.mk _ _ (e1) ?_ | refine aa.mk _ _ (s1) ?_ | refine aa.mk _ _ (h1) ?_ | refine aa.mk _ _ (l1) ?_ | refine aa.mk _ _ (o1) ?_ | refine aa.mk _ _ (o2) ?_ | refine aa.mk _ _ (o3) ?_ | refine aa.mk _ _ (p1) ?_ | refine DsE.mk (kn2 5) rfl ?_ | refine DsE.mk (kn2 6) rfl ?_ | refine rgE ?_ | refine Cd.mk rfl ?_ | refine Br.t ?_ | refine ah.mk _ rfl ?_ | (refine TkE.fL ?_; (conv => whnf); fail_if_success (show ae _ _)) | refine Res.mk ?_ | ((with_reducible refine EqE.idS ?_); (refine EqE.fP ?_; (conv => whnf); fail_if_success (show ae _ _))) | ((with_reducible refine EqE.idL ?_); refine EqE.mk _ rfl ?_) | refine Cd.ol ?_)
 all_goals rfl
end Go.Ev.Ar

namespace Go.Ev.Ar
open Go Go.Ev Go.Proofs
def gk (x : Nd) : Prop := x.k = 1 ∨ x.k = 2 ∨ x.k = 3 ∨ x.k = 4 ∨ x.k = 5 ∨ x.k = 7
def ndC (vs : List Cr) (x : Nd) (z : Cr) : Cr :=
 if x.k = 1 then z else if x.k = 2 then tc x.r.val else if x.k = 3 then vs.getD x.a.toNat 0 + vs.getD x.b.toNat 0 else if x.k = 4 then vs.getD x.a.toNat 0 - vs.getD x.b.toNat 0
 else if x.k = 5 then vs.getD x.a.toNat 0 * vs.getD x.b.toNat 0 else aj3 (vs.getD x.a.toNat 0) x.n.toNat
def cvL (es : List Nd) (z : Cr) : Nat → List Cr
 | 0 => []
 | i + 1 => cvL es z i ++ [ndC (cvL es z i) (es.getD i Nd.nil) z]
theorem aj4 (es : List Nd) (z : Cr) : ∀ i, (cvL es z i).length = i
 | 0 => rfl
 | i + 1 => by rw [cvL, List.length_append, aj4 es z i] <;> rfl
theorem kp {α : Type} {l : List α} {r d : α} {j : Nat} (h : j < l.length) : (l ++ [r]).getD j d = l.getD j d := by
 rw [List.getD_eq_getElem?_getD, List.getElem?_append_left h, List.getD_eq_getElem?_getD]
theorem gj {α : Type} (l : List α) (r d : α) : (l ++ [r]).getD l.length d = r := by simp
theorem yl (es : List Nd) (z : Cr) : ∀ i j, j < i → (cvL es z i).getD j 0 = ndC (cvL es z j) (es.getD j Nd.nil) z
 | i + 1, j, h => by
  rw [cvL]
  rcases Nat.lt_succ_iff_lt_or_eq.1 h with g | rfl
  ·rw [kp (by rw [aj4]; exact g)]; exact yl es z i j g
  ·have := gj (cvL es z j) (ndC (cvL es z j) (es.getD j Nd.nil) z) 0
   rwa [aj4] at this
theorem u6 (es : List Nd) (z : Cr) (i k j : Nat) (h : j < i) (g : j < k) : (cvL es z i).getD j 0 = (cvL es z k).getD j 0 := by rw [yl es z i j h, yl es z k j g]
theorem aem (es t : List Nd) (z : Cr) : ∀ i, i ≤ es.length → cvL (es ++ t) z i = cvL es z i
 | 0, _ => rfl
 | i + 1, h => by
  rw [cvL, cvL, aem es t z i (by omega)]
  rw [List.getD_eq_getElem?_getD, List.getElem?_append_left (by omega), List.getD_eq_getElem?_getD]
def vAt (es : List Nd) (z : Cr) (d : Int) : Cr := if d = -1 then 0 else (cvL es z es.length).getD d.toNat 0
theorem ali {es : List Nd} (t : List Nd) {z : Cr} {d : Int} (h : -1 ≤ d ∧ d < es.length) : vAt (es ++ t) z d = vAt es z d := by
 unfold vAt; split
 ·rfl
 ·rw [u6 (es ++ t) z _ es.length d.toNat (by rw [List.length_append]; omega) (by omega), aem es t z _ (Nat.le_refl _)]
theorem ae5 (es : List Nd) (x : Nd) (z : Cr) : vAt (es ++ [x]) z es.length = ndC (cvL es z es.length) x z := by
 unfold vAt
 rw [if_neg (by omega), Int.toNat_natCast, yl _ _ _ _ (by simp), aem es [x] z _ (Nat.le_refl _), gj]
theorem so {es : List Nd} {z : Cr} {a : Int} (h : 0 ≤ a) : (cvL es z es.length).getD a.toNat 0 = vAt es z a := by unfold vAt; rw [if_neg (by omega)]
def aeb (x : Nd) : Prop := x.r.few 2 40 = true
structure Gn (es : List Nd) : Prop where
 nd : ∀ j, j < es.length → dy (es.getD j Nd.nil) j = true ∧ gk (es.getD j Nd.nil) ∧ aeb (es.getD j Nd.nil)
theorem Gn.add {es : List Nd} {x : Nd} (h : Gn es) (h1 : dy x es.length = true) (h2 : gk x) (h3 : aeb x) : Gn (es ++ [x]) := by
 refine ⟨fun j hj => ?_⟩
 rw [List.length_append] at hj
 have : j < es.length ∨ j = es.length := by simp at hj; omega
 rcases this with g | rfl
 ·rw [kp g]; exact h.nd j g
 ·rw [gj]; exact ⟨h1, h2, h3⟩
theorem Gn.take {es : List Nd} (h : Gn es) (n : Nat) : Gn (es.take n) := by
 refine ⟨fun j hj => ?_⟩
 rw [List.length_take] at hj
 have e : (es.take n).getD j Nd.nil = es.getD j Nd.nil := by
  rw [List.getD_eq_getElem?_getD, List.getElem?_take, if_pos (by omega), List.getD_eq_getElem?_getD]
 rw [e]; exact h.nd j (by omega)
structure Ex (es : List Nd) (r : List Nd × Int) : Prop where
 app : ∃ t, r.1 = es ++ t
 gn : Gn r.1
 rng : -1 ≤ r.2 ∧ r.2 < r.1.length
theorem Ex.len {es : List Nd} {r : List Nd × Int} (h : Ex es r) : es.length ≤ r.1.length := by obtain ⟨t, e⟩ := h.app; rw [e, List.length_append]; omega
theorem Ex.trans {es : List Nd} {r s : List Nd × Int} (h : Ex es r) (g : Ex r.1 s) : Ex es s := by
 obtain ⟨t, e⟩ := h.app
 obtain ⟨u, f⟩ := g.app
 exact ⟨⟨t ++ u, by rw [f, e, List.append_assoc]⟩, g.gn, g.rng⟩
theorem Ex.val {es : List Nd} {r : List Nd × Int} (h : Ex es r) {z : Cr} {d : Int} (hd : -1 ≤ d ∧ d < es.length) : vAt r.1 z d = vAt es z d := by
 obtain ⟨t, e⟩ := h.app
 rw [e]; exact ali t hd
theorem Ex.at {es : List Nd} {d : Int} (h : Gn es) (hd : -1 ≤ d ∧ d < es.length) : Ex es (es, d) := ⟨⟨[], by simp⟩, h, hd⟩
theorem Ex.ad {es : List Nd} {x : Nd} (h : Gn es) (h1 : dy x es.length = true) (h2 : gk x) (h3 : aeb x) : Ex es (adF es x) :=
 ⟨⟨[x], rfl⟩, h.add h1 h2 h3, by unfold adF; dsimp only; omega, by unfold adF; simp; omega⟩
theorem amm {k a b : Int} {n : Nat} (hk : 3 ≤ k ∧ k ≤ 6) (ha : 0 ≤ a ∧ a < n) (hb : 0 ≤ b ∧ b < n) : dy ⟨k, a, b, 0, RC.nil⟩ n = true := by
 have kc : k = 3 ∨ k = 4 ∨ k = 5 ∨ k = 6 := by omega
 unfold dy
 rw [if_neg (by dsimp only; omega)]
 dsimp only
 rw [decide_eq_true (show 0 ≤ a ∧ a < (n : Int) by omega), decide_eq_true (show 0 ≤ b ∧ b < (n : Int) by omega), Bool.or_true, Bool.or_true, Bool.and_true, Bool.and_true]
 rcases kc with rfl | rfl | rfl | rfl <;> rfl
theorem aw7 {a m : Int} {n : Nat} (ha : 0 ≤ a ∧ a < n) (hm : 0 ≤ m ∧ m ≤ 64) : dy ⟨7, a, 0, m, RC.nil⟩ n = true := by
 unfold dy
 rw [if_pos rfl]
 dsimp only
 rw [decide_eq_true (show 0 ≤ a ∧ a < (n : Int) by omega), decide_eq_true hm]
 rfl
theorem a2t : ((List.range 66).all fun k => dy (cN ((k : Int) - 1)) 0 && (cN ((k : Int) - 1)).r.few 2 40) = true := by kernel_rfl
theorem apf {x : Nd} (h : x.k = 2) (i : Int) : dy x i = dy x 0 := by
 unfold dy
 rw [h]
 rfl
theorem yk {n : Int} (h1 : -1 ≤ n) (h2 : n ≤ 64) (i : Int) : dy (cN n) i = true ∧ aeb (cN n) := by
 have := List.all_eq_true.1 a2t (n + 1).toNat (List.mem_range.2 (by omega))
 rw [show (((n + 1).toNat : Int) - 1) = n by omega, Bool.and_eq_true] at this
 exact ⟨(apf rfl i).trans this.1, this.2⟩
theorem a2u (n : Int) : (cN n).r.val = (dof n 0, 0) := by
 show (dof (zv (a7 (ak (dof n 0))) (ofN (ak (dof n 0)).natAbs)) (av (dof n 0)), dof (zv false []) 0) = _
 rw [p7, bu] <;> rfl
theorem jx (k a b n : Int) : aeb ⟨k, a, b, n, RC.nil⟩ := by show RC.nil.few 2 40 = true; kernel_rfl
theorem ald {es : List Nd} {z : Cr} {x y : Int} (h : Gn es) (hx : -1 ≤ x ∧ x < es.length) (hy : -1 ≤ y ∧ y < es.length) : Ex es (tmF es x y) ∧ vAt (tmF es x y).1 z (tmF es x y).2 = vAt es z x * vAt es z y := by
 unfold tmF
 split
 ·rename_i c
  refine ⟨Ex.at h (by omega), ?_⟩
  rcases c with c | c
  ·subst c; show (0 : Cr) = 0 * _; grind
  ·subst c; show (0 : Cr) = _ * 0; grind
 ·rename_i c
  have hx' : 0 ≤ x ∧ x < es.length := by omega
  have hy' : 0 ≤ y ∧ y < es.length := by omega
  refine ⟨Ex.ad h (amm (by decide) hx' hy') (.inr (.inr (.inr (.inr (.inl rfl))))) (jx ..), ?_⟩
  show vAt (es ++ [_]) z es.length = _
  rw [ae5]
  unfold ndC
  rw [if_neg (show ¬ (5 : Int) = 1 by decide), if_neg (show ¬ (5 : Int) = 2 by decide), if_neg (show ¬ (5 : Int) = 3 by decide), if_neg (show ¬ (5 : Int) = 4 by decide), if_pos rfl]
  dsimp only
  rw [so hx'.1, so hy'.1]
theorem a5i : tc (dof 0 0, 0) = 0 := by rw [og]; exact p6
theorem av3 {es : List Nd} {z : Cr} {n : Int} (h : Gn es) (h1 : -1 ≤ n) (h2 : n ≤ 64) : Ex es (adF es (cN n)) ∧ vAt (adF es (cN n)).1 z (adF es (cN n)).2 = tc (dof n 0, 0) := by
 refine ⟨Ex.ad h (yk h1 h2 _).1 (.inr (.inl rfl)) (yk h1 h2 0).2, ?_⟩
 show vAt (es ++ [_]) z es.length = _
 rw [ae5]
 unfold ndC
 rw [if_neg (show ¬ (cN n).k = 1 from by show ¬ (2 : Int) = 1; decide), if_pos (show (cN n).k = 2 from rfl), a2u]
def pm (k : Int) (x y : Cr) : Cr := if k = 3 then x + y else x - y
theorem asn {es : List Nd} {z : Cr} {k x y : Int} (hk : k = 3 ∨ k = 4) (h : Gn es) (hx : 0 ≤ x ∧ x < es.length) (hy : 0 ≤ y ∧ y < es.length) : Ex es (adF es ⟨k, x, y, 0, RC.nil⟩) ∧ vAt (adF es ⟨k, x, y, 0, RC.nil⟩).1 z (adF es ⟨k, x, y, 0, RC.nil⟩).2 = pm k (vAt es z x) (vAt es z y) := by
 refine ⟨Ex.ad h (amm (by omega) hx hy) (by unfold gk; dsimp only; omega) (jx ..), ?_⟩
 show vAt (es ++ [_]) z es.length = _
 rw [ae5]
 unfold ndC pm
 rcases hk with rfl | rfl
 ·rw [if_neg (show ¬ (3 : Int) = 1 by decide), if_neg (show ¬ (3 : Int) = 2 by decide), if_pos rfl, if_pos rfl]; dsimp only; rw [so hx.1, so hy.1]
 ·rw [if_neg (show ¬ (4 : Int) = 1 by decide), if_neg (show ¬ (4 : Int) = 2 by decide), if_neg (show ¬ (4 : Int) = 3 by decide), if_pos rfl, if_neg (show ¬ (4 : Int) = 3 by decide)]; dsimp only; rw [so hx.1, so hy.1]
theorem ap2 {es : List Nd} {z : Cr} {x y k : Int} (hk : k = 3 ∨ k = 4) (h : Gn es) (hx : -1 ≤ x ∧ x < es.length) (hy : -1 ≤ y ∧ y < es.length) : Ex es (plF es x y k) ∧ vAt (plF es x y k).1 z (plF es x y k).2 = pm k (vAt es z x) (vAt es z y) := by
 have m1 : vAt es z (-1) = 0 := rfl
 unfold plF
 split
 ·rename_i c
  subst c
  refine ⟨Ex.at h hx, ?_⟩
  show vAt es z x = _
  rw [m1]; unfold pm; split <;> grind
 ·split
  ·rename_i c d
   obtain ⟨rfl, rfl⟩ := d
   refine ⟨Ex.at h hy, ?_⟩
   show vAt es z y = _
   rw [m1]; unfold pm; rw [if_pos rfl]; grind
  ·split
   ·rename_i c d e
    subst e
    obtain ⟨g1, g2⟩ := av3 (z := z) h (n := 0) (by decide) (by decide)
    have hl : (es ++ [cN 0]).length = es.length + 1 := by simp
    have gn : Gn (es ++ [cN 0]) := g1.gn
    obtain ⟨f1, f2⟩ := asn (z := z) (k := k) (x := (es.length : Int)) (y := y) hk gn (by rw [hl]; omega) (by rw [hl]; omega)
    refine ⟨g1.trans f1, ?_⟩
    rw [f2]
    have e1 : vAt (es ++ [cN 0]) z (es.length : Int) = 0 := g2.trans a5i
    have e2 : vAt (es ++ [cN 0]) z y = vAt es z y := ali [cN 0] hy
    rw [e1, e2, m1]
   ·exact asn hk h (by omega) (by omega)
def amy (vs : List Du) (x : Nd) (z : Du) : Du :=
 if x.k = 1 then z else if x.k = 2 then dcn (tc x.r.val) else if x.k = 3 then duA (vs.getD x.a.toNat (dcn 0)) (vs.getD x.b.toNat (dcn 0)) else if x.k = 4 then duA (vs.getD x.a.toNat (dcn 0)) (duN (vs.getD x.b.toNat (dcn 0)))
 else if x.k = 5 then duM (vs.getD x.a.toNat (dcn 0)) (vs.getD x.b.toNat (dcn 0)) else duP (vs.getD x.a.toNat (dcn 0)) x.n.toNat
def duL (es : List Nd) (z : Du) : Nat → List Du
 | 0 => []
 | i + 1 => duL es z i ++ [amy (duL es z i) (es.getD i Nd.nil) z]
theorem aj8 (es : List Nd) (z : Du) : ∀ i, (duL es z i).length = i
 | 0 => rfl
 | i + 1 => by rw [duL, List.length_append, aj8 es z i] <;> rfl
theorem yq (es : List Nd) (z : Du) : ∀ i j, j < i → (duL es z i).getD j (dcn 0) = amy (duL es z j) (es.getD j Nd.nil) z
 | i + 1, j, h => by
  rw [duL]
  rcases Nat.lt_succ_iff_lt_or_eq.1 h with g | rfl
  ·rw [kp (by rw [aj8]; exact g)]; exact yq es z i j g
  ·have := gj (duL es z j) (amy (duL es z j) (es.getD j Nd.nil) z) (dcn 0)
   rwa [aj8] at this
theorem z8 (es : List Nd) (z : Du) (i k j : Nat) (h : j < i) (g : j < k) : (duL es z i).getD j (dcn 0) = (duL es z k).getD j (dcn 0) := by rw [yq es z i j h, yq es z k j g]
theorem zt {x : Nd} {i : Nat} (h : dy x i = true) : (3 ≤ x.k → 0 ≤ x.a ∧ x.a < i) ∧ (3 ≤ x.k → x.k ≤ 6 → 0 ≤ x.b ∧ x.b < i) ∧ (x.k = 7 → 0 ≤ x.n ∧ x.n ≤ 64) := by
 obtain ⟨k1, k10, fa, fb, _, _, f7, _⟩ := ik h
 exact ⟨fun g => fa (by omega), fun g k => fb (by omega), f7⟩
theorem a4y {es : List Nd} (z : Cr) (w : Cr) (h : ∀ j, j < es.length → dy (es.getD j Nd.nil) j = true ∧ gk (es.getD j Nd.nil)) : ∀ j, j < es.length → ((duL es ⟨z, w⟩ es.length).getD j (dcn 0)).a = (cvL es z es.length).getD j 0 := by
 intro j
 induction j using Nat.strongRecOn with
 | ind j ih =>
  intro hj
  rw [yq _ _ _ _ hj, yl _ _ _ _ hj]
  obtain ⟨h1, h2⟩ := h j hj
  obtain ⟨ga, gb, gn⟩ := zt h1
  have va : ∀ a : Int, 0 ≤ a ∧ a < (j : Int) → ((duL es ⟨z, w⟩ j).getD a.toNat (dcn 0)).a = (cvL es z j).getD a.toNat 0 := fun a ha => by
   rw [z8 _ _ j es.length a.toNat (by omega) (by omega), u6 _ _ j es.length a.toNat (by omega) (by omega)]
   exact ih a.toNat (by omega) (by omega)
  generalize es.getD j Nd.nil = x at *
  unfold amy ndC
  rcases h2 with k | k | k | k | k | k
  ·rw [if_pos k, if_pos k]
  ·rw [if_neg (by omega), if_pos k, if_neg (by omega), if_pos k] <;> rfl
  ·rw [if_neg (by omega), if_neg (by omega), if_pos k, if_neg (by omega), if_neg (by omega), if_pos k, ← va _ (ga (by omega)), ← va _ (gb (by omega) (by omega))] <;> rfl
  ·rw [if_neg (by omega), if_neg (by omega), if_neg (by omega), if_pos k, if_neg (by omega), if_neg (by omega), if_neg (by omega), if_pos k, ← va _ (ga (by omega)), ← va _ (gb (by omega) (by omega))]
   show _ + - _ = _ - _
   grind
  ·rw [if_neg (by omega), if_neg (by omega), if_neg (by omega), if_neg (by omega), if_pos k, if_neg (by omega), if_neg (by omega), if_neg (by omega), if_neg (by omega), if_pos k, ← va _ (ga (by omega)), ← va _ (gb (by omega) (by omega))] <;> rfl
  ·rw [if_neg (by omega), if_neg (by omega), if_neg (by omega), if_neg (by omega), if_neg (by omega), if_neg (by omega), if_neg (by omega), if_neg (by omega), if_neg (by omega), if_neg (by omega), arh, va _ (ga (by omega))]
end Go.Ev.Ar
