/- Contracts of the given functions, on data. Conditions stand in each theorem. -/
import Derived.Test.YtagjickjfjgfpaaGreatDoorHEvR
import Derived.Test.YtagjickjfjgfpaaGreatDoorHAvVk
import Derived.Test.YtagjickjfjgfpaaGreatDoorHAvVf
import Derived.Test.YtagjickjfjgfpaaGreatDoorHAvDyL
set_option linter.unusedSimpArgs false
set_option linter.unusedVariables false
namespace Go.Ev.Ar
open Go Go.Ev Go.Proofs
theorem DyS.of {q : Dyadic} (h : Ht 10000 q) : DyS (dyD q) q := by
 obtain ⟨h1, h2, h3⟩ := h.parts
 have r := DyR.of (h.mono (b := 1048576) (by decide))
 have e : dof (zv (a7 (ak q)) (ofN (ak q).natAbs)) (av q) = q := by rw [p7, bu]
 have k : DyS (.agg [.bool (a7 (ak q)), sl (ofN (ak q).natAbs), .int .i64 (av q)]) (dof (zv (a7 (ak q)) (ofN (ak q).natAbs)) (av q)) :=
  .mk (h1.len (by decide)) (by omega) (by omega) (by rw [e]; exact r)
 rw [e] at k; exact k
theorem CxS.of {z : Cq} (h : Hc 10000 z) : CxS (cxD z) z := .mk (DyS.of h.1) (DyS.of h.2)
def a45 (z : Cq) : Bool := ay1 z.1 && ay1 z.2
attribute [local irreducible] ao2 afn
def a4q (z : Rq) (p : Int) : Rq := (b8 (ao2 (rof z.1) p) (afn (rof z.2) p).1, b8 (ao2 (rof z.1) p) (afn (rof z.2) p).2)
def awz (z : Cq) (p : Int) : Rq := (b8 (dof 1 (-1), dof 1 (-1)) (js (ao2 z p) (ao2 (nm z) p)), b8 (dof 1 (-1), dof 1 (-1)) (wv (ao2 z p) (ao2 (nm z) p)))
attribute [irreducible] awz
def a4t (z : Rq) (p : Int) : Rq := (b8 (afn (rof z.1) p).2 (awz (rof z.2) p).1, b8 (afn (rof z.1) p).1 (awz (rof z.2) p).2)
def a4p (z : Rq) (p : Int) : Rq := (b8 (afn (rof z.1) p).1 (awz (rof z.2) p).1, nm (b8 (afn (rof z.1) p).2 (awz (rof z.2) p).2))
end Go.Ev.Ar

namespace Go.Ev.Ar
open Go Go.Ev Go.Proofs
theorem a5c {p q : Dyadic} : p.toRat < q.toRat ↔ p < q :=
 ⟨fun h => Classical.byContradiction fun g => Rat.not_le.2 h (wx.2 (by grind)), fun h => Rat.not_le.1 fun g => absurd (wx.1 g) (by grind)⟩
theorem aui {z w : Rq} (p : Int) : (o5 z w p).2 = 11 ∨ (o5 z w p).2 = 0 := by unfold o5; split <;> simp
def zR : Rq := ((0, 0), (0, 0))
def aaf (x : Rq) (p : Int) : Nat → Option Rq
 | 0 => some (ptR ai)
 | j + 1 => (aaf x p j).bind fun r => if okR (bn (iw r x) (p + 20)) then some (bn (iw r x) (p + 20)) else none
def roA (r : Rq × Int) (p : Int) : Rq × Int := if r.2 = 0 then (bn r.1 (p + 20), 0) else (zR, r.2)
def elA (f : Rq → Int → Rq) (z : Rq) (p : Int) : Rq × Int := if a45 z.1 = true ∧ a45 z.2 = true then (f z p, 0) else (zR, 13)
def ee (vs : List Rq) (x : Nd) (X : Rq) (p : Int) : Rq × Int :=
 if x.k = 1 then (X, 0)
 else if x.k = 2 then (ptR x.r.val, 0)
 else if x.k = 3 then (bn (ada (vs.getD x.a.toNat (ai, ai)) (vs.getD x.b.toNat (ai, ai))) (p + 20), 0)
 else if x.k = 4 then (bn (aef (vs.getD x.a.toNat (ai, ai)) (vs.getD x.b.toNat (ai, ai))) (p + 20), 0)
 else if x.k = 5 then (bn (if x.a = x.b then rsq (vs.getD x.a.toNat (ai, ai)) else iw (vs.getD x.a.toNat (ai, ai)) (vs.getD x.b.toNat (ai, ai))) (p + 20), 0)
 else if x.k = 6 then roA (o5 (vs.getD x.a.toNat (ai, ai)) (vs.getD x.b.toNat (ai, ai)) (p + 20)) p
 else if x.k = 7 then match aaf (vs.getD x.a.toNat (ai, ai)) p x.n.toNat with | some r => (r, 0) | none => (zR, 13)
 else if x.k = 8 then roA (elA a4q (vs.getD x.a.toNat (ai, ai)) p) p
 else if x.k = 9 then roA (elA a4t (vs.getD x.a.toNat (ai, ai)) p) p
 else roA (elA a4p (vs.getD x.a.toNat (ai, ai)) p) p
def aad (vs : List Rq) (x : Nd) (X : Rq) (p : Int) : Except Int Rq := if (ee vs x X p).2 = 0 then (if okR (ee vs x X p).1 then .ok (ee vs x X p).1 else .error 13) else .error (ee vs x X p).2
def atL (xs : List Nd) (X : Rq) (p : Int) : Nat → Except Int (List Rq)
 | 0 => .ok []
 | i + 1 => match atL xs X p i with
  | .error c => .error c
  | .ok vs => match aad vs (xs.getD i Nd.nil) X p with
   | .error c => .error c
   | .ok r => .ok (vs ++ [r])
theorem afi {xs : List Nd} {X : Rq} {p c : Int} : ∀ {i j : Nat}, atL xs X p i = .error c → i ≤ j → atL xs X p j = .error c
 | i, 0, h, hj => by rw [show i = 0 by omega] at h; cases h
 | i, j + 1, h, hj => by
  by_cases e : i = j + 1
  ·rw [← e]; exact h
  ·unfold atL; rw [afi h (by omega)]
structure Av (zs ps : List Rq) : Prop where
 len : zs.length = ps.length
 v : ∀ j, j < ps.length → ∃ v, Vl (ps.getD j (ai, ai)) v ∧ a2f (zs.getD j (ai, ai)) v
theorem Av.add {zs ps : List Rq} {p r : Rq} {v : Cr} (h : Av zs ps) (hp : Vl p v) (hr : a2f r v) : Av (zs ++ [r]) (ps ++ [p]) := by
 refine ⟨by simp [h.len], fun j hj => ?_⟩
 rw [List.length_append] at hj
 have : j < ps.length ∨ j = ps.length := by simp at hj; omega
 rcases this with g | rfl
 ·rw [n4 g, n4 (by rw [h.len]; exact g)]; exact h.v j g
 ·have e : (zs ++ [r]).getD ps.length (ai, ai) = r := by rw [← h.len, gf]
  rw [gf, e]; exact ⟨v, hp, hr⟩
end Go.Ev.Ar

namespace Go.Ev.Ar
open Go Go.Ev Go.Proofs
theorem aa3 {q : Dyadic} : dOk q = true ↔ -20000 ≤ av q ∧ av q ≤ 20000 := by
 constructor
 ·intro h
  unfold dOk kq at h
  rw [Bool.and_eq_true, Bool.and_eq_true, Bool.and_eq_true, Bool.and_eq_true] at h
  exact ⟨of_decide_eq_true h.1.1.2, of_decide_eq_true h.1.2⟩
 ·intro h; exact amj q h.1 h.2
theorem asb {z : Rq} : okR z = true ↔ (dOk z.1.1 = true ∧ dOk z.1.2 = true) ∧ dOk z.2.1 = true ∧ dOk z.2.2 = true := by
 unfold okR; simp only [Bool.and_eq_true]; exact ⟨fun ⟨⟨⟨a, b⟩, c⟩, d⟩ => ⟨⟨a, b⟩, c, d⟩, fun ⟨⟨a, b⟩, c, d⟩ => ⟨⟨⟨a, b⟩, c⟩, d⟩⟩
def Nq (q : Dyadic) : Prop := Zt 250 (ak q) ∧ -20000 ≤ av q ∧ av q ≤ 20000
def Nr (z : Rq) : Prop := (Nq z.1.1 ∧ Nq z.1.2) ∧ Nq z.2.1 ∧ Nq z.2.2
theorem Nq.ht {q : Dyadic} (h : Nq q) : Ht 20300 q := by
 have := Ht.dof (h := 20300) (a := 250) (b := 20000) h.1 h.2.1 h.2.2 (by decide)
 rwa [bu] at this
theorem Nr.hr {z : Rq} (h : Nr z) : Hr 20300 z := ⟨⟨h.1.1.ht, h.1.2.ht⟩, h.2.1.ht, h.2.2.ht⟩
theorem Nq.ds {q : Dyadic} (h : Nq q) : DyS (dyD q) q := by
 have r := DyR.of (h.ht.mono (b := 1048576) (by decide))
 have e : dof (zv (a7 (ak q)) (ofN (ak q).natAbs)) (av q) = q := by rw [p7, bu]
 have k : DyS (.agg [.bool (a7 (ak q)), sl (ofN (ak q).natAbs), .int .i64 (av q)]) (dof (zv (a7 (ak q)) (ofN (ak q).natAbs)) (av q)) :=
  .mk (h.1.len (by decide)) h.2.1 h.2.2 (by rw [e]; exact r)
 rw [e] at k; exact k
theorem Nq.zero : Nq 0 := ⟨Zt.small (by rw [yn]; decide) (by decide), by decide, by decide⟩
theorem agm {k e : Int} {q : Dyadic} (h : q = dof k e) (hk : k.natAbs ≤ 2 ^ 220) (ho : dOk q = true) : Nq q := by
 refine ⟨?_, aa3.1 ho⟩
 by_cases k0 : k = 0
 ·rw [h, k0, og]; exact Nq.zero.1
 ·have := (nh e k0).2.1
  unfold Zt
  rw [h, this]
  refine Nat.lt_of_le_of_lt (Nat.div_le_self _ _) (Nat.lt_of_le_of_lt hk ?_)
  exact Nat.pow_lt_pow_right (by decide) (by decide)
theorem abt {q : Dyadic} {p : Int} (mode : Int) (hm : mode = 0 ∨ mode = 1) (hp : p ≤ 220) (ho : dOk (rto q p mode) = true) : Nq (rto q p mode) := by
 unfold rto at ho ⊢
 split
 ·exact .zero
 rename_i h0
 rw [if_neg h0] at ho
 obtain ⟨k, hk⟩ := akd q (cn q p) 0
 obtain ⟨j, hj⟩ := akd q (cn q p) 1
 obtain ⟨g1, g2, g3, g4, _⟩ := acq q (cn q p)
 rw [hk] at g1 g3
 rw [hj] at g2 g4
 have s1 := xg k (cn q p)
 have s2 := xg (j - 1) (cn q p)
 rw [Int.sub_add_cancel] at s2
 have l := vn h0
 obtain ⟨K, hK⟩ : ∃ K : Nat, K = (min (max p 1) 4000).toNat := ⟨_, rfl⟩
 have hK2 : K ≤ 220 := by omega
 have e1 : dof (2 ^ K) (cn q p) = dof 1 (db q + 1) := by
  rw [hK, aew _ _ (by omega)]; unfold cn; congr 1; omega
 rw [← e1] at l
 obtain ⟨l1, l2⟩ := xc.1 l
 have e2 := n5 (2 ^ K) (cn q p)
 have a1 : dof k (cn q p) < dof (2 ^ K) (cn q p) := by grind
 have a2 : dof (-(2 ^ K)) (cn q p) < dof (k + 1) (cn q p) := by grind
 have a3 : dof (j - 1) (cn q p) < dof (2 ^ K) (cn q p) := by grind
 have a4 : dof (-(2 ^ K)) (cn q p) < dof j (cn q p) := by grind
 rw [mg] at a1 a2 a3 a4
 have pm : 2 ^ K ≤ 2 ^ 220 := Nat.pow_le_pow_right (by decide) hK2
 obtain ⟨A, hA⟩ : ∃ A : Nat, 2 ^ K = A := ⟨_, rfl⟩
 have pk : (2 : Int) ^ K = (A : Int) := by rw [← hA, Int.natCast_pow]; rfl
 rw [pk] at a1 a2 a3 a4
 rw [hA] at pm
 have b1 : k.natAbs ≤ A := by clear pm hA; omega
 have b2 : j.natAbs ≤ A := by clear pm hA; omega
 rcases hm with rfl | rfl
 ·exact agm hk (Nat.le_trans b1 pm) ho
 ·exact agm hj (Nat.le_trans b2 pm) ho
theorem agn {z : Rq} {p : Int} (hp : p ≤ 220) (ho : okR (bn z p) = true) : Nr (bn z p) := by
 obtain ⟨⟨a, b⟩, c, d⟩ := asb.1 ho
 exact ⟨⟨abt 0 (.inl rfl) hp a, abt 1 (.inr rfl) hp b⟩, abt 0 (.inl rfl) hp c, abt 1 (.inr rfl) hp d⟩
theorem x7 : D.agg [.bool false, sl [], .int .i64 0, .bool false, sl [], .int .i64 0, .bool false, sl [], .int .i64 0, .bool false, sl [], .int .i64 0] = rqD zR := by rw [← bh]; rfl
theorem a4l : ou zR := by unfold ou Ord zR; dsimp only; exact ⟨by grind, by grind⟩
theorem anj (z w : Rq) (p : Int) : ou (o5 z w p).1 := by
 unfold o5; split
 ·exact a4l
 ·exact vy _ (ra _ _)
end Go.Ev.Ar

namespace Go.Ev.Ar
open Go Go.Ev Go.Proofs
def Gd (z : Rq) : Prop := Nr z ∧ ou z
abbrev ays (vs : List Rq) (n : Nat) : List A := fa oc (a9 vs n)
abbrev gv (vs : List Rq) (a : Int) : Rq := vs.getD a.toNat (ai, ai)
theorem xq {vs : List Rq} {n : Nat} {a : Int} {r : Rq} (h0 : 0 ≤ a) (h1 : a < vs.length) (hv : vs.length ≤ n) (hr : gv vs a = r) : ((fa oc (a9 vs n)).drop (0 + a.toNat * 12)).take 12 = (oc (some r)).map A.d := by
 subst hr
 exact m9 h0 (by omega) hv (eh (by omega))
set_option maxHeartbeats 4000000 in
theorem aln {vs : List Rq} {n : Nat} {x : Nd} {r : Rq} (hn : vs.length ≤ n) (hn2 : n < 2^62) (ha : 0 ≤ x.a ∧ x.a < vs.length) (hb : 0 ≤ x.b ∧ x.b < vs.length) (ga : Gd (gv vs x.a)) (gb : Gd (gv vs x.b))
  (h : (if x.a = x.b then rsq (gv vs x.a) else iw (gv vs x.a) (gv vs x.b)) = r) :
  ji Tryz.prog G0 160 [.own 1000000 0 n 12, .d (.agg x.cells)] [(1000000, false, ays vs n)] (.d (rqD r)) [(1000000, false, ays vs n)] := by
 obtain ⟨k, a, b, n', ⟨b1, l1, e1, c1, k1, f1⟩⟩ := x
 dsimp only at ha hb ga gb h
 obtain ⟨p, hp⟩ : ∃ p, gv vs a = p := ⟨_, rfl⟩
 obtain ⟨q, hq⟩ : ∃ q, gv vs b = q := ⟨_, rfl⟩
 have L1 := xq ha.1 ha.2 hn hp
 have L2 := xq hb.1 hb.2 hn hq
 rw [hp] at ga h
 rw [hq] at gb h
 have hl := akr hn
 have hp2 := ga.1.hr
 have hq2 := gb.1.hr
 by_cases e : a = b
 ·rw [if_pos e] at h
  have s1 := ala (r := r) (RqR.of (hp2.mono (by decide))) (hp2.mono (by decide)) (by rw [jf ga.2]; exact h)
  obtain ⟨⟨_, _⟩, ⟨_, _⟩⟩ := p
  obtain ⟨⟨_, _⟩, ⟨_, _⟩⟩ := r
  refine jq af Tryz.func160 ?_
  repeat' ((conv => whnf); first | with_reducible refine ag.data ?_ | ((with_reducible refine Br.ck ?hpp ?_); case hpp => first | omega | (dsimp only; omega)) | refine aa.mk _ _ (s1) ?_ | ((with_reducible show TkE (fa oc (a9 vs _)) _ _ _); refine TkE.mk _ L1 rfl ?_) | refine rgE ?_ | refine Cd.mk rfl ?_ | refine ah.mk _ rfl ?_ | ((with_reducible refine EqE.idS ?_); (refine EqE.fP ?_; (conv => whnf); fail_if_success (show ae _ _))) | refine Cd.ol ?_ | refine Cd.os ?_)
  refine fo.data _ ?_ rfl
  repeat' ((conv => whnf); first | refine Cd.mk rfl ?_ | (refine TkE.fL ?_; (conv => whnf); fail_if_success (show ae _ _)))
  exact ⟨rfl, rfl⟩
 ·rw [if_neg e] at h
  have s1 := ahb (RqR.of (hp2.mono (by decide))) (RqR.of (hq2.mono (by decide))) (hp2.mono (by decide)) (hq2.mono (by decide)) h
  obtain ⟨⟨_, _⟩, ⟨_, _⟩⟩ := p
  obtain ⟨⟨_, _⟩, ⟨_, _⟩⟩ := q
  obtain ⟨⟨_, _⟩, ⟨_, _⟩⟩ := r
  refine jq af Tryz.func160 ?_
  repeat' ((conv => whnf); first | ((with_reducible refine Br.b4 ?hpp ?_); case hpp => first | omega | (dsimp only; omega)) | refine aa.mk _ _ (s1) ?_ | ((with_reducible show TkE (fa oc (a9 vs _)) (0 + Int.toNat a * _) _ _); refine TkE.mk _ L1 rfl ?_) | ((with_reducible show TkE (fa oc (a9 vs _)) (0 + Int.toNat b * _) _ _); refine TkE.mk _ L2 rfl ?_) | refine rgE ?_ | refine Cd.mk rfl ?_ | refine ah.mk _ rfl ?_ | ((with_reducible refine EqE.idS ?_); (refine EqE.fP ?_; (conv => whnf); fail_if_success (show ae _ _))) | refine Cd.ol ?_ | refine Cd.os ?_)
  refine fo.data _ ?_ rfl
  repeat' ((conv => whnf); first | refine Cd.mk rfl ?_ | (refine TkE.fL ?_; (conv => whnf); fail_if_success (show ae _ _)))
  exact ⟨rfl, rfl⟩
def a30 (o : Option Rq) : D := match o with
 | some r => .tup [rqD r, .int .i64 0]
 | none => .tup [rqD zR, .int .i64 13]
theorem a1h (o : Option Rq) : (a30 o).sc = false := by cases o <;> rfl
theorem aiy {X : Rq} {p : Int} {i : Nat} (h : aaf X p i = none) : ∀ {j : Nat}, i ≤ j → aaf X p j = none
 | 0, hj => by rw [show i = 0 by omega] at h; cases h
 | j + 1, hj => by
  by_cases e : i = j + 1
  ·rw [← e]; exact h
  ·unfold aaf; rw [aiy h (show i ≤ j by omega)]; rfl
theorem ax0 : Nq 1 := ⟨Zt.small (by decide) (by decide), by decide, by decide⟩
theorem axy : Gd (ptR ai) := ⟨⟨⟨ax0, ax0⟩, .zero, .zero⟩, by unfold ou Ord ptR; dsimp only; exact ⟨by grind, by grind⟩⟩
set_option maxHeartbeats 4000000 in
theorem au8 {X : Rq} {n p : Int} (gX : Gd X) (hn : 0 ≤ n ∧ n ≤ 64) (hp : 0 ≤ p ∧ p ≤ 200) : Sim Tryz.prog G0 false 162 [rqD X, .int .i64 n, .int .i64 p] (a30 (aaf X p n.toNat)) := by
 have s1 : Sim Tryz.prog G0 false 90 [.int .i64 1, .int .i64 0] (cxD ai) := awn 1 0 (by decide) (by decide) (by decide) (by decide)
 have o1 : Hc 164 ai := se _ (by decide)
 have s2 := as4 (CxR.of (o1.mono (b := 1048576) (by decide))) (o1.mono (by decide))
 have hX := gX.1.hr
 have step : ∀ r, Gd r → Sim Tryz.prog G0 false 129 [rqD r, rqD X] (rqD (iw r X)) ∧ Sim Tryz.prog G0 false 134 [rqD (iw r X), .int .i64 (p + 20)] (rqD (bn (iw r X) (p + 20))) ∧ Sim Tryz.prog G0 true 104 [rqD (bn (iw r X) (p + 20))] (.bool (okR (bn (iw r X) (p + 20)))) := fun r gr => by
  have hr := gr.1.hr
  have hM : Hr 40601 (iw r X) := hr.iw hX (by decide)
  have oM := ra r X
  have hR := hM.bn (p := p + 20) (K := 220) (by omega)
  refine ⟨ahb (RqR.of (hr.mono (by decide))) (RqR.of (hX.mono (by decide))) (hr.mono (by decide)) (hX.mono (by decide)) rfl, ?_, alk (hR.mono (by decide)) rfl⟩
  exact aan (p + 20) (RqR.of (hM.mono (by decide))) (hM.mono (by decide)) (by rw [jf oM])
 have nxt : ∀ r, okR (bn (iw r X) (p + 20)) = true → Gd (bn (iw r X) (p + 20)) := fun r h => ⟨agn (by omega) h, vy _ (ra _ _)⟩
 clear gX hX
 obtain ⟨⟨_, _⟩, ⟨_, _⟩⟩ := X
 rename_i X1 X2 X3 X4
 refine ao (hs := (a1h _)) af Tryz.func162 ?_
 repeat' ((conv => whnf); first | with_reducible refine ag.data ?_ | refine aa.mk _ _ (s1) ?_ | refine aa.mk _ _ (s2) ?_ | refine rgE ?_ | refine Cd.mk rfl ?_ | ((with_reducible refine EqE.idS ?_); (refine EqE.fP ?_; (conv => whnf); fail_if_success (show ae _ _))) | refine Cd.ol ?_)
 refine ⟨[], [2, 3, 6, 8, 11, 12], [3, 6, 8], fun m ys h => ∃ (i : Nat) (r : Rq), m = n.toNat - i ∧ i ≤ n.toNat ∧ aaf ((X1, X2), (X3, X4)) p i = some r ∧ Gd r ∧ ys = [.d (.int .i64 p), .ptr 3 0, .ptr 6 0, .ptr 8 0, .d (.int .i64 n), .d (.int .i64 i)] ∧
  h = [(8, false, (oc (some r)).map A.d), (6, false, zeA ++ zeA ++ zeA ++ zeA), (3, false, (oc (some ((X1, X2), (X3, X4)))).map A.d)],
  ⟨_, _, _, ⟨.inl rfl, rfl, rfl, by first | rfl | (repeat first | exact all_nil _ | refine bm _ _ _ _ _ ?_)⟩, 0, ptR ai, rfl, by omega, rfl, axy, rfl, rfl⟩, ?_⟩
 rintro m ys h ⟨i, r, rfl, hi, hpw, gr, rfl, rfl⟩
 by_cases hlt : i < n.toNat
 ·obtain ⟨m1, m2, m3⟩ := step r gr
  have hnx := nxt r
  have e1 : aaf ((X1, X2), (X3, X4)) p (i + 1) = if okR (bn (iw r ((X1, X2), (X3, X4))) (p + 20)) then some (bn (iw r ((X1, X2), (X3, X4))) (p + 20)) else none := by rw [aaf, hpw]; rfl
  generalize iw r ((X1, X2), (X3, X4)) = M at *
  generalize bn M (p + 20) = R at *
  obtain ⟨⟨_, _⟩, ⟨_, _⟩⟩ := r
  obtain ⟨⟨_, _⟩, ⟨_, _⟩⟩ := M
  obtain ⟨t, ht⟩ : ∃ t, okR R = t := ⟨_, rfl⟩
  rw [ht] at m3 hnx e1
  cases t
  ·rw [if_neg (by decide)] at e1
   obtain ⟨⟨_, _⟩, ⟨_, _⟩⟩ := R
   have e2 := aiy e1 (show i + 1 ≤ n.toNat by omega)
   rw [e2]
   repeat' ((conv => whnf); first | with_reducible refine ag.data ?_ | ((with_reducible refine Br.ck ?hpp ?_); case hpp => first | omega | (dsimp only; omega)) | refine aa.mk _ _ (m1) ?_ | refine aa.mk _ _ (m2) ?_ | refine aa.mk _ _ (m3) ?_ | refine rgE ?_ | refine Cd.mk rfl ?_ | refine Br.t ?_ | (refine TkE.fL ?_; (conv => whnf); fail_if_success (show ae _ _)) | refine Res.mk ?_ | ((with_reducible refine EqE.idW ?_); refine EqE.mk (p + 20) (aj (by omega) (by omega)) ?_) | ((with_reducible refine EqE.idS ?_); (refine EqE.fP ?_; (conv => whnf); fail_if_success (show ae _ _))) | refine Cd.ol ?_)
   rw [show a30 none = D.tup [rqD zR, .int .i64 13] from rfl, ← x7]; rfl
  ·rw [if_pos rfl] at e1
   have gR := hnx rfl
   obtain ⟨⟨_, _⟩, ⟨_, _⟩⟩ := R
   repeat' ((conv => whnf); first | with_reducible refine ag.data ?_ | ((with_reducible refine Br.ck ?hpp ?_); case hpp => first | omega | (dsimp only; omega)) | refine aa.mk _ _ (m1) ?_ | refine aa.mk _ _ (m2) ?_ | refine aa.mk _ _ (m3) ?_ | refine rgE ?_ | refine Cd.mk rfl ?_ | refine Br.f ?_ | (refine TkE.fL ?_; (conv => whnf); fail_if_success (show ae _ _)) | refine an.cu _ _ ?_ | ((with_reducible refine EqE.idW ?_); first | refine EqE.mk (p + 20) (aj (by omega) (by omega)) ?_ | with_reducible refine EqE.mk _ (ax _ (by omega)) ?_) | ((with_reducible refine EqE.idS ?_); (refine EqE.fP ?_; (conv => whnf); fail_if_success (show ae _ _))) | refine Cd.ol ?_)
   exact ⟨_, ⟨i + 1, _, rfl, by omega, e1, gR, rfl, rfl⟩, by omega⟩
 ·have e : n.toNat = i := by omega
  rw [e, hpw]
  obtain ⟨⟨_, _⟩, ⟨_, _⟩⟩ := r
  repeat' ((conv => whnf); first | ((with_reducible refine Br.b4 ?hpp ?_); case hpp => first | omega | (dsimp only; omega)) | refine rgE ?_ | refine Cd.mk rfl ?_ | (refine TkE.fL ?_; (conv => whnf); fail_if_success (show ae _ _)) | refine Res.mk ?_ | ((with_reducible refine EqE.idS ?_); (refine EqE.fP ?_; (conv => whnf); fail_if_success (show ae _ _))) | refine Cd.ol ?_)
  rfl
set_option maxRecDepth 10000 in
set_option maxHeartbeats 16000000 in
theorem aq1 {vs : List Rq} {n : Nat} {x : Nd} {X R : Rq} {p c : Int} (hn : vs.length ≤ n) (hn2 : n < 2^62) (hv : ∀ j, j < vs.length → Gd (vs.getD j (ai, ai))) (hx : dy x vs.length = true) (k7 : x.k ≤ 7) (hc : x.k = 2 → Hc 20300 x.r.val) (hp : 0 ≤ p ∧ p ≤ 200) (h : ee vs x X p = (R, c)) :
  ji Tryz.prog G0 106 [.d (.agg x.cells), .own 1000000 0 n 12, .d (rqD X), .d (.int .i64 p)] [(1000000, false, ays vs n)] (.d (.tup [rqD R, .int .i64 c])) [(1000000, false, ays vs n)] := by
 have fx := ik hx
 have hl := akr hn
 obtain ⟨k, a, b, n', ⟨b1, l1, e1, c1, k1, f1⟩⟩ := x
 obtain ⟨kk1, kk10, fa', fb', ga, gb, f7, f2⟩ := fx
 dsimp only at kk1 kk10 fa' fb' ga gb f7 f2 hc k7
 have p20 : IntKind.i64.wrap (p + 20) = p + 20 := aj (by omega) (by omega)
 have gq : ∀ a : Int, 0 ≤ a → a < vs.length → Gd (gv vs a) := fun a h1 h2 => hv _ (by omega)
 have rd : ∀ M : Rq, Hr 97700 M → ou M → Sim Tryz.prog G0 false 134 [rqD M, .int .i64 (p + 20)] (rqD (bn M (p + 20))) := fun M hM oM => aan (p + 20) (RqR.of (hM.mono (by decide))) (hM.mono (by decide)) (by rw [jf oM])
 have kc : k = 1 ∨ k = 2 ∨ k = 3 ∨ k = 4 ∨ k = 5 ∨ k = 6 ∨ k = 7 := by omega
 clear hx hv
 rcases kc with rfl | rfl | rfl | rfl | rfl | rfl | rfl
 ·have e0 : ee vs ⟨1, a, b, n', ⟨b1, l1, e1, c1, k1, f1⟩⟩ X p = (X, 0) := by unfold ee; rw [if_pos rfl]
  rw [e0] at h
  clear e0
  cases h
  obtain ⟨⟨_, _⟩, ⟨_, _⟩⟩ := X
  refine jq af Tryz.func106 ?_
  repeat' ((conv => whnf); first | refine rgE ?_ | refine Cd.mk rfl ?_ | refine Br.t ?_ | refine ah.mk _ rfl ?_ | (refine TkE.fL ?_; (conv => whnf); fail_if_success (show ae _ _)) | ((with_reducible refine EqE.idS ?_); (refine EqE.fP ?_; (conv => whnf); fail_if_success (show ae _ _))) | refine Cd.ol ?_)
  refine fo.data _ ?_ rfl
  repeat' ((conv => whnf); first | refine Cd.mk rfl ?_ | (refine TkE.fL ?_; (conv => whnf); fail_if_success (show ae _ _)))
  exact ⟨rfl, rfl⟩
 ·have e0 : ee vs ⟨2, a, b, n', ⟨b1, l1, e1, c1, k1, f1⟩⟩ X p = (ptR (RC.val ⟨b1, l1, e1, c1, k1, f1⟩), 0) := by unfold ee; rw [if_neg (show ¬ (2 : Int) = 1 by decide), if_pos rfl]
  rw [e0] at h
  clear e0
  cases h
  obtain ⟨d1, d2⟩ := f2 rfl
  obtain ⟨q1, q2, q3, _⟩ := nn d1
  obtain ⟨q4, q5, q6, _⟩ := nn d2
  have hcc : Hc 20300 (dof (zv b1 l1) e1, dof (zv c1 k1) f1) := hc rfl
  show ji _ _ _ _ _ (.d (.tup [rqD (ptR (dof (zv b1 l1) e1, dof (zv c1 k1) f1)), _])) _
  clear f2 d1 d2 hc
  generalize dof (zv b1 l1) e1 = u at *
  generalize dof (zv c1 k1) f1 = v at *
  subst q1 q2 q3 q4 q5 q6
  have s1 := as4 (CxR.of (hcc.mono (show 20300 ≤ 1048576 by decide))) (hcc.mono (by decide))
  refine jq af Tryz.func106 ?_
  repeat' ((conv => whnf); first | with_reducible refine ag.data ?_ | ((with_reducible refine Br.b4 ?hpp ?_); case hpp => first | omega | (dsimp only; omega)) | refine aa.mk _ _ (s1) ?_ | refine rgE ?_ | refine Cd.mk rfl ?_ | refine Br.t ?_ | refine ah.mk _ rfl ?_ | (refine TkE.fL ?_; (conv => whnf); fail_if_success (show ae _ _)) | ((with_reducible refine EqE.idS ?_); (refine EqE.fP ?_; (conv => whnf); fail_if_success (show ae _ _))) | refine Cd.ol ?_)
  refine fo.data _ ?_ rfl
  repeat' ((conv => whnf); first | refine Cd.mk rfl ?_ | (refine TkE.fL ?_; (conv => whnf); fail_if_success (show ae _ _)))
  exact ⟨rfl, rfl⟩
 ·obtain ⟨a0, a1⟩ := fa' (by decide)
  obtain ⟨b0, b1'⟩ := fb' (by decide)
  have hga := gq a a0 a1
  have hgb := gq b b0 b1'
  obtain ⟨u, hu⟩ : ∃ u, gv vs a = u := ⟨_, rfl⟩
  obtain ⟨v, hv⟩ : ∃ v, gv vs b = v := ⟨_, rfl⟩
  have L1 := xq a0 a1 hn hu
  have L2 := xq b0 b1' hn hv
  have e0 : ee vs ⟨3, a, b, n', ⟨b1, l1, e1, c1, k1, f1⟩⟩ X p = (bn (ada (gv vs a) (gv vs b)) (p + 20), 0) := by unfold ee; rw [if_neg (show ¬ (3 : Int) = 1 by decide), if_neg (show ¬ (3 : Int) = 2 by decide), if_pos rfl]
  rw [e0] at h
  clear e0
  rw [hu] at hga h
  rw [hv] at hgb h
  have hhu := hga.1.hr
  have hhv := hgb.1.hr
  have hM : Hr 20301 (ada u v) := hhu.ada hhv (by decide)
  have oM := anh hga.2 hgb.2
  have s1 := ayv (r := ada u v) (RqR.of (hhu.mono (by decide))) (RqR.of (hhv.mono (by decide))) (hhu.mono (by decide)) (hhv.mono (by decide)) (by rw [jf hga.2, jf hgb.2])
  have s2 := rd _ (hM.mono (by decide)) oM
  generalize ada u v = M at *
  generalize bn M (p + 20) = R at *
  cases h
  obtain ⟨⟨_, _⟩, ⟨_, _⟩⟩ := u
  obtain ⟨⟨_, _⟩, ⟨_, _⟩⟩ := v
  obtain ⟨⟨_, _⟩, ⟨_, _⟩⟩ := M
  obtain ⟨⟨_, _⟩, ⟨_, _⟩⟩ := R
  refine jq af Tryz.func106 ?_
  repeat' ((conv => whnf); first | with_reducible refine ag.data ?_ | ((with_reducible refine Br.b4 ?hpp ?_); case hpp => first | omega | (dsimp only; omega)) | refine aa.mk _ _ (s1) ?_ | refine aa.mk _ _ (s2) ?_ | ((with_reducible show TkE (fa oc (a9 vs _)) (0 + Int.toNat a * _) _ _); refine TkE.mk _ L1 rfl ?_) | ((with_reducible show TkE (fa oc (a9 vs _)) (0 + Int.toNat b * _) _ _); refine TkE.mk _ L2 rfl ?_) | refine rgE ?_ | refine Cd.mk rfl ?_ | refine Br.t ?_ | refine Br.f ?_ | refine ah.mk _ rfl ?_ | (refine TkE.fL ?_; (conv => whnf); fail_if_success (show ae _ _)) | ((with_reducible refine EqE.idW ?_); refine EqE.mk (p + 20) p20 ?_) | ((with_reducible refine EqE.idS ?_); (refine EqE.fP ?_; (conv => whnf); fail_if_success (show ae _ _))) | refine Cd.ol ?_ | refine Cd.os ?_)
  refine fo.data _ ?_ rfl
  repeat' ((conv => whnf); first | refine Cd.mk rfl ?_ | (refine TkE.fL ?_; (conv => whnf); fail_if_success (show ae _ _)))
  exact ⟨rfl, rfl⟩
 ·obtain ⟨a0, a1⟩ := fa' (by decide)
  obtain ⟨b0, b1'⟩ := fb' (by decide)
  have hga := gq a a0 a1
  have hgb := gq b b0 b1'
  obtain ⟨u, hu⟩ : ∃ u, gv vs a = u := ⟨_, rfl⟩
  obtain ⟨v, hv⟩ : ∃ v, gv vs b = v := ⟨_, rfl⟩
  have L1 := xq a0 a1 hn hu
  have L2 := xq b0 b1' hn hv
  have e0 : ee vs ⟨4, a, b, n', ⟨b1, l1, e1, c1, k1, f1⟩⟩ X p = (bn (aef (gv vs a) (gv vs b)) (p + 20), 0) := by unfold ee; rw [if_neg (show ¬ (4 : Int) = 1 by decide), if_neg (show ¬ (4 : Int) = 2 by decide), if_neg (show ¬ (4 : Int) = 3 by decide), if_pos rfl]
  rw [e0] at h
  clear e0
  rw [hu] at hga h
  rw [hv] at hgb h
  have hhu := hga.1.hr
  have hhv := hgb.1.hr
  have hM : Hr 20301 (aef u v) := hhu.aef hhv (by decide)
  have oM := anx hga.2 hgb.2
  have s1 := ayw (r := aef u v) (RqR.of (hhu.mono (by decide))) (RqR.of (hhv.mono (by decide))) (hhu.mono (by decide)) (hhv.mono (by decide)) (by rw [jf hga.2, jf hgb.2])
  have s2 := rd _ (hM.mono (by decide)) oM
  generalize aef u v = M at *
  generalize bn M (p + 20) = R at *
  cases h
  obtain ⟨⟨_, _⟩, ⟨_, _⟩⟩ := u
  obtain ⟨⟨_, _⟩, ⟨_, _⟩⟩ := v
  obtain ⟨⟨_, _⟩, ⟨_, _⟩⟩ := M
  obtain ⟨⟨_, _⟩, ⟨_, _⟩⟩ := R
  refine jq af Tryz.func106 ?_
  repeat' ((conv => whnf); first | with_reducible refine ag.data ?_ | ((with_reducible refine Br.b4 ?hpp ?_); case hpp => first | omega | (dsimp only; omega)) | refine aa.mk _ _ (s1) ?_ | refine aa.mk _ _ (s2) ?_ | ((with_reducible show TkE (fa oc (a9 vs _)) (0 + Int.toNat a * _) _ _); refine TkE.mk _ L1 rfl ?_) | ((with_reducible show TkE (fa oc (a9 vs _)) (0 + Int.toNat b * _) _ _); refine TkE.mk _ L2 rfl ?_) | refine rgE ?_ | refine Cd.mk rfl ?_ | refine Br.t ?_ | refine Br.f ?_ | refine ah.mk _ rfl ?_ | (refine TkE.fL ?_; (conv => whnf); fail_if_success (show ae _ _)) | ((with_reducible refine EqE.idW ?_); refine EqE.mk (p + 20) p20 ?_) | ((with_reducible refine EqE.idS ?_); (refine EqE.fP ?_; (conv => whnf); fail_if_success (show ae _ _))) | refine Cd.ol ?_ | refine Cd.os ?_)
  refine fo.data _ ?_ rfl
  repeat' ((conv => whnf); first | refine Cd.mk rfl ?_ | (refine TkE.fL ?_; (conv => whnf); fail_if_success (show ae _ _)))
  exact ⟨rfl, rfl⟩
 ·obtain ⟨a0, a1⟩ := fa' (by decide)
  obtain ⟨b0, b1'⟩ := fb' (by decide)
  have hga := gq a a0 a1
  have hgb := gq b b0 b1'
  obtain ⟨u, hu⟩ : ∃ u, gv vs a = u := ⟨_, rfl⟩
  obtain ⟨v, hv⟩ : ∃ v, gv vs b = v := ⟨_, rfl⟩
  have L1 := xq a0 a1 hn hu
  have L2 := xq b0 b1' hn hv
  have e0 : ee vs ⟨5, a, b, n', ⟨b1, l1, e1, c1, k1, f1⟩⟩ X p = (bn (if a = b then rsq (gv vs a) else iw (gv vs a) (gv vs b)) (p + 20), 0) := by unfold ee; rw [if_neg (show ¬ (5 : Int) = 1 by decide), if_neg (show ¬ (5 : Int) = 2 by decide), if_neg (show ¬ (5 : Int) = 3 by decide), if_neg (show ¬ (5 : Int) = 4 by decide), if_pos rfl]
  rw [e0] at h
  clear e0
  have s1 := aln (x := ⟨5, a, b, n', ⟨b1, l1, e1, c1, k1, f1⟩⟩) hn hn2 ⟨a0, a1⟩ ⟨b0, b1'⟩ hga hgb rfl
  dsimp only at s1
  have hM : Hr 40700 (if a = b then rsq (gv vs a) else iw (gv vs a) (gv vs b)) ∧ ou (if a = b then rsq (gv vs a) else iw (gv vs a) (gv vs b)) := by
   split
   ·exact ⟨hga.1.hr.rsq (by decide), as3 hga.2⟩
   ·exact ⟨hga.1.hr.iw hgb.1.hr (by decide), ra _ _⟩
  generalize (if a = b then rsq (gv vs a) else iw (gv vs a) (gv vs b)) = M at *
  have s2 := rd M (hM.1.mono (by decide)) hM.2
  generalize bn M (p + 20) = R at *
  cases h
  obtain ⟨⟨m1, m2⟩, ⟨m3, m4⟩⟩ := M
  obtain ⟨⟨_, _⟩, ⟨_, _⟩⟩ := R
  refine jq af Tryz.func106 ?_
  repeat' ((conv => whnf); first | refine ag.own (jl.au (s1) [(1000000, 1000000)] [] (.d (rqD ((m1, m2), (m3, m4)))) [(1000000, false, ays vs n)] [] ?_) | with_reducible refine ag.data ?_ | ((with_reducible refine Br.b4 ?hpp ?_); case hpp => first | omega | (dsimp only; omega)) | refine aa.mk _ _ (s2) ?_ | refine rgE ?_ | refine Cd.mk rfl ?_ | refine Br.t ?_ | refine Br.f ?_ | refine ah.mk _ rfl ?_ | (refine TkE.fL ?_; (conv => whnf); fail_if_success (show ae _ _)) | ((with_reducible refine EqE.idW ?_); refine EqE.mk (p + 20) p20 ?_) | ((with_reducible refine EqE.idS ?_); (refine EqE.fP ?_; (conv => whnf); fail_if_success (show ae _ _))) | refine Cd.ol ?_)
  refine fo.data _ ?_ rfl
  repeat' ((conv => whnf); first | refine Cd.mk rfl ?_ | (refine TkE.fL ?_; (conv => whnf); fail_if_success (show ae _ _)))
  exact ⟨rfl, rfl⟩
 ·obtain ⟨a0, a1⟩ := fa' (by decide)
  obtain ⟨b0, b1'⟩ := fb' (by decide)
  have hga := gq a a0 a1
  have hgb := gq b b0 b1'
  obtain ⟨u, hu⟩ : ∃ u, gv vs a = u := ⟨_, rfl⟩
  obtain ⟨v, hv⟩ : ∃ v, gv vs b = v := ⟨_, rfl⟩
  have L1 := xq a0 a1 hn hu
  have L2 := xq b0 b1' hn hv
  have e0 : ee vs ⟨6, a, b, n', ⟨b1, l1, e1, c1, k1, f1⟩⟩ X p = roA (o5 (gv vs a) (gv vs b) (p + 20)) p := by unfold ee; rw [if_neg (show ¬ (6 : Int) = 1 by decide), if_neg (show ¬ (6 : Int) = 2 by decide), if_neg (show ¬ (6 : Int) = 3 by decide), if_neg (show ¬ (6 : Int) = 4 by decide), if_neg (show ¬ (6 : Int) = 5 by decide), if_pos rfl]
  rw [e0] at h
  clear e0
  rw [hu] at hga h
  rw [hv] at hgb h
  have hhu := hga.1.hr
  have hhv := hgb.1.hr
  obtain ⟨⟨M, d⟩, hM0⟩ : ∃ M, o5 u v (p + 20) = M := ⟨_, rfl⟩
  have s1 := aut (r := M) (c := d) (p + 20) (RqR.of (hhu.mono (by decide))) (RqR.of (hhv.mono (by decide))) (hhu.mono (by decide)) (hhv.mono (by decide)) (by rw [jf hga.2, jf hgb.2]; exact hM0)
  have hdc := aui (z := u) (w := v) (p + 20)
  have hM := hhu.o5 hhv (p := p + 20) (K := 220) (by omega)
  have oM := anj u v (p + 20)
  rw [hM0] at h hdc hM oM
  dsimp only at hdc hM oM
  rcases hdc with rfl | rfl
  ·rw [show roA (M, 11) p = (zR, 11) from rfl] at h
   cases h
   obtain ⟨⟨_, _⟩, ⟨_, _⟩⟩ := u
   obtain ⟨⟨_, _⟩, ⟨_, _⟩⟩ := v
   obtain ⟨⟨_, _⟩, ⟨_, _⟩⟩ := M
   refine jq af Tryz.func106 ?_
   repeat' ((conv => whnf); first | ((with_reducible refine Br.b4 ?hpp ?_); case hpp => first | omega | (dsimp only; omega)) | refine aa.mk _ _ (s1) ?_ | ((with_reducible show TkE (fa oc (a9 vs _)) (0 + Int.toNat a * _) _ _); refine TkE.mk _ L1 rfl ?_) | ((with_reducible show TkE (fa oc (a9 vs _)) (0 + Int.toNat b * _) _ _); refine TkE.mk _ L2 rfl ?_) | refine rgE ?_ | refine Cd.mk rfl ?_ | refine Br.t ?_ | refine ah.mk _ rfl ?_ | ((with_reducible refine EqE.idW ?_); refine EqE.mk (p + 20) p20 ?_) | ((with_reducible refine EqE.idS ?_); (refine EqE.fP ?_; (conv => whnf); fail_if_success (show ae _ _))) | refine Cd.ol ?_ | refine Cd.os ?_)
   refine fo.data _ ?_ rfl
   repeat' ((conv => whnf); first | refine Cd.mk rfl ?_ | (refine TkE.fL ?_; (conv => whnf); fail_if_success (show ae _ _)))
   refine ⟨?_, rfl⟩
   rw [← x7]; rfl
  ·rw [show roA (M, 0) p = (bn M (p + 20), 0) from rfl] at h
   have s2 := rd M (hM.mono (by decide)) oM
   generalize bn M (p + 20) = R at *
   cases h
   obtain ⟨⟨_, _⟩, ⟨_, _⟩⟩ := u
   obtain ⟨⟨_, _⟩, ⟨_, _⟩⟩ := v
   obtain ⟨⟨_, _⟩, ⟨_, _⟩⟩ := M
   obtain ⟨⟨_, _⟩, ⟨_, _⟩⟩ := R
   refine jq af Tryz.func106 ?_
   repeat' ((conv => whnf); first | with_reducible refine ag.data ?_ | ((with_reducible refine Br.b4 ?hpp ?_); case hpp => first | omega | (dsimp only; omega)) | refine aa.mk _ _ (s1) ?_ | refine aa.mk _ _ (s2) ?_ | ((with_reducible show TkE (fa oc (a9 vs _)) (0 + Int.toNat a * _) _ _); refine TkE.mk _ L1 rfl ?_) | ((with_reducible show TkE (fa oc (a9 vs _)) (0 + Int.toNat b * _) _ _); refine TkE.mk _ L2 rfl ?_) | refine rgE ?_ | refine Cd.mk rfl ?_ | refine Br.t ?_ | refine Br.f ?_ | refine ah.mk _ rfl ?_ | (refine TkE.fL ?_; (conv => whnf); fail_if_success (show ae _ _)) | ((with_reducible refine EqE.idW ?_); refine EqE.mk (p + 20) p20 ?_) | ((with_reducible refine EqE.idS ?_); (refine EqE.fP ?_; (conv => whnf); fail_if_success (show ae _ _))) | refine Cd.ol ?_ | refine Cd.os ?_)
   refine fo.data _ ?_ rfl
   repeat' ((conv => whnf); first | refine Cd.mk rfl ?_ | (refine TkE.fL ?_; (conv => whnf); fail_if_success (show ae _ _)))
   exact ⟨rfl, rfl⟩
 ·obtain ⟨a0, a1⟩ := fa' (by decide)
  have hga := gq a a0 a1
  obtain ⟨u, hu⟩ : ∃ u, gv vs a = u := ⟨_, rfl⟩
  have L1 := xq a0 a1 hn hu
  have e0 : ee vs ⟨7, a, b, n', ⟨b1, l1, e1, c1, k1, f1⟩⟩ X p = match aaf (gv vs a) p n'.toNat with | some r => (r, 0) | none => (zR, 13) := by unfold ee; rw [if_neg (show ¬ (7 : Int) = 1 by decide), if_neg (show ¬ (7 : Int) = 2 by decide), if_neg (show ¬ (7 : Int) = 3 by decide), if_neg (show ¬ (7 : Int) = 4 by decide), if_neg (show ¬ (7 : Int) = 5 by decide), if_neg (show ¬ (7 : Int) = 6 by decide), if_pos rfl] <;> rfl
  rw [e0] at h
  clear e0
  rw [hu] at hga h
  have s1 := au8 (n := n') hga (f7 rfl) hp
  cases ho : aaf u p n'.toNat with
  | none =>
   rw [ho] at h s1
   cases h
   obtain ⟨⟨_, _⟩, ⟨_, _⟩⟩ := u
   refine jq af Tryz.func106 ?_
   repeat' ((conv => whnf); first | ((with_reducible refine Br.b4 ?hpp ?_); case hpp => first | omega | (dsimp only; omega)) | refine aa.mk _ _ (s1) ?_ | ((with_reducible show TkE (fa oc (a9 vs _)) (0 + Int.toNat a * _) _ _); refine TkE.mk _ L1 rfl ?_) | refine rgE ?_ | refine Cd.mk rfl ?_ | refine Br.t ?_ | refine ah.mk _ rfl ?_ | ((with_reducible refine EqE.idS ?_); (refine EqE.fP ?_; (conv => whnf); fail_if_success (show ae _ _))) | refine Cd.ol ?_ | refine Cd.os ?_)
   refine fo.data _ ?_ rfl
   repeat' ((conv => whnf); first | refine Cd.mk rfl ?_ | (refine TkE.fL ?_; (conv => whnf); fail_if_success (show ae _ _)))
   exact ⟨rfl, rfl⟩
  | some M =>
   rw [ho] at h s1
   cases h
   obtain ⟨⟨_, _⟩, ⟨_, _⟩⟩ := u
   obtain ⟨⟨_, _⟩, ⟨_, _⟩⟩ := R
   refine jq af Tryz.func106 ?_
   repeat' ((conv => whnf); first | ((with_reducible refine Br.b4 ?hpp ?_); case hpp => first | omega | (dsimp only; omega)) | refine aa.mk _ _ (s1) ?_ | ((with_reducible show TkE (fa oc (a9 vs _)) (0 + Int.toNat a * _) _ _); refine TkE.mk _ L1 rfl ?_) | refine rgE ?_ | refine Cd.mk rfl ?_ | refine Br.t ?_ | refine ah.mk _ rfl ?_ | ((with_reducible refine EqE.idS ?_); (refine EqE.fP ?_; (conv => whnf); fail_if_success (show ae _ _))) | refine Cd.ol ?_ | refine Cd.os ?_)
   refine fo.data _ ?_ rfl
   repeat' ((conv => whnf); first | refine Cd.mk rfl ?_ | (refine TkE.fL ?_; (conv => whnf); fail_if_success (show ae _ _)))
   exact ⟨rfl, rfl⟩
end Go.Ev.Ar

namespace Go.Ev.Ar
open Go Go.Ev Go.Proofs
def atD (o : Except Int (List Rq)) : D := match o with
 | .ok vs => .tup [rqD (vs.getD (vs.length - 1) (ai, ai)), .int .i64 0]
 | .error c => .tup [rqD zR, .int .i64 c]
theorem avo (o : Except Int (List Rq)) : (atD o).sc = false := by cases o <;> rfl
theorem aty (z : Rq) : ayg (fv z) (fv z) = fv z := by
 unfold ayg aru
 have e : ∀ d : Dyadic, mn d d = d ∧ mx d d = d := fun d => by unfold mn mx; constructor <;> split <;> rfl
 exact Prod.ext (Prod.ext (e _).1 (e _).2) (Prod.ext (e _).1 (e _).2)
theorem Nr.fv {z : Rq} (h : Nr z) : Nr (fv z) := by
 have one : ∀ c : Cq, Nq c.1 ∧ Nq c.2 → Nq (rof c).1 ∧ Nq (rof c).2 := fun c ⟨a, b⟩ => by
  unfold rof mn mx; dsimp only
  constructor
  ·split
   ·exact a
   ·exact b
  ·split <;> first | exact a | exact b
 exact ⟨one _ h.1, one _ h.2⟩
theorem Nr.okR {z : Rq} (h : Nr z) : okR z = true := asb.2 ⟨⟨aa3.2 h.1.1.2, aa3.2 h.1.2.2⟩, aa3.2 h.2.1.2, aa3.2 h.2.2.2⟩
theorem a3m {vs : List Rq} {x : Nd} {X : Rq} {p : Int} (hv : ∀ j, j < vs.length → Gd (vs.getD j (ai, ai))) (hx : dy x vs.length = true) (k7 : x.k ≤ 7) (hc : x.k = 2 → Nq x.r.val.1 ∧ Nq x.r.val.2) (gX : Gd X) (hp : 0 ≤ p ∧ p ≤ 200) :
  Hr 100000 (ee vs x X p).1 ∧ ((ee vs x X p).2 = 0 → okR (ee vs x X p).1 = true → Gd (ee vs x X p).1) := by
 obtain ⟨k1, k10, fa, fb, _, _, f7, f2⟩ := ik hx
 have rd : ∀ M : Rq, Hr 97700 M → ou M → Hr 100000 (bn M (p + 20)) ∧ (okR (bn M (p + 20)) = true → Gd (bn M (p + 20))) := fun M hM oM =>
  ⟨(hM.bn (p := p + 20) (K := 220) (by omega)).mono (by decide), fun h => ⟨agn (by omega) h, vy _ oM⟩⟩
 have ro : ∀ (r : Rq × Int), Hr 97700 r.1 → ou r.1 → Hr 100000 (roA r p).1 ∧ ((roA r p).2 = 0 → okR (roA r p).1 = true → Gd (roA r p).1) := fun r hM oM => by
  unfold roA; split
  ·exact ⟨(rd _ hM oM).1, fun _ => (rd _ hM oM).2⟩
  ·rename_i h; exact ⟨Hr.zero _, fun h' => absurd h' h⟩
 have gq : ∀ a : Int, 0 ≤ a → a < vs.length → Gd (vs.getD a.toNat (ai, ai)) := fun a h1 h2 => hv _ (by omega)
 have kc : x.k = 1 ∨ x.k = 2 ∨ x.k = 3 ∨ x.k = 4 ∨ x.k = 5 ∨ x.k = 6 ∨ x.k = 7 := by omega
 rcases kc with k | k | k | k | k | k | k
 ·have e : ee vs x X p = (X, 0) := by unfold ee; rw [if_pos k]
  rw [e]; exact ⟨gX.1.hr.mono (by decide), fun _ _ => gX⟩
 ·have e : ee vs x X p = (ptR x.r.val, 0) := by unfold ee; rw [if_neg (by omega), if_pos k]
  rw [e]
  have h := hc k
  have g : Gd (ptR x.r.val) := ⟨⟨⟨h.1, h.1⟩, h.2, h.2⟩, by unfold ou Ord ptR; dsimp only; exact ⟨by grind, by grind⟩⟩
  exact ⟨g.1.hr.mono (by decide), fun _ _ => g⟩
 ·obtain ⟨a0, a1⟩ := fa (by omega)
  obtain ⟨b0, b1⟩ := fb (by omega)
  have e : ee vs x X p = (bn (ada (vs.getD x.a.toNat (ai, ai)) (vs.getD x.b.toNat (ai, ai))) (p + 20), 0) := by unfold ee; rw [if_neg (by omega), if_neg (by omega), if_pos k]
  rw [e]
  have r := rd _ (Hr.mono (Hr.ada (gq _ a0 a1).1.hr (gq _ b0 b1).1.hr (c := 20301) (by decide)) (by decide)) (anh (gq _ a0 a1).2 (gq _ b0 b1).2)
  exact ⟨r.1, fun _ => r.2⟩
 ·obtain ⟨a0, a1⟩ := fa (by omega)
  obtain ⟨b0, b1⟩ := fb (by omega)
  have e : ee vs x X p = (bn (aef (vs.getD x.a.toNat (ai, ai)) (vs.getD x.b.toNat (ai, ai))) (p + 20), 0) := by unfold ee; rw [if_neg (by omega), if_neg (by omega), if_neg (by omega), if_pos k]
  rw [e]
  have r := rd _ (Hr.mono (Hr.aef (gq _ a0 a1).1.hr (gq _ b0 b1).1.hr (c := 20301) (by decide)) (by decide)) (anx (gq _ a0 a1).2 (gq _ b0 b1).2)
  exact ⟨r.1, fun _ => r.2⟩
 ·obtain ⟨a0, a1⟩ := fa (by omega)
  obtain ⟨b0, b1⟩ := fb (by omega)
  have e : ee vs x X p = (bn (if x.a = x.b then rsq (vs.getD x.a.toNat (ai, ai)) else iw (vs.getD x.a.toNat (ai, ai)) (vs.getD x.b.toNat (ai, ai))) (p + 20), 0) := by unfold ee; rw [if_neg (by omega), if_neg (by omega), if_neg (by omega), if_neg (by omega), if_pos k]
  rw [e]
  have r := rd (if x.a = x.b then rsq (vs.getD x.a.toNat (ai, ai)) else iw (vs.getD x.a.toNat (ai, ai)) (vs.getD x.b.toNat (ai, ai))) (by
   split
   ·exact Hr.mono (Hr.rsq (gq _ a0 a1).1.hr (c := 40700) (by decide)) (by decide)
   ·exact Hr.mono (Hr.iw (gq _ a0 a1).1.hr (gq _ b0 b1).1.hr (c := 40700) (by decide)) (by decide)) (by
   split
   ·exact as3 (gq _ a0 a1).2
   ·exact ra _ _)
  exact ⟨r.1, fun _ => r.2⟩
 ·obtain ⟨a0, a1⟩ := fa (by omega)
  obtain ⟨b0, b1⟩ := fb (by omega)
  have e : ee vs x X p = roA (o5 (vs.getD x.a.toNat (ai, ai)) (vs.getD x.b.toNat (ai, ai)) (p + 20)) p := by unfold ee; rw [if_neg (by omega), if_neg (by omega), if_neg (by omega), if_neg (by omega), if_neg (by omega), if_pos k]
  rw [e]
  exact ro _ (Hr.mono (Hr.o5 (gq _ a0 a1).1.hr (gq _ b0 b1).1.hr (p := p + 20) (K := 220) (by omega)) (by decide)) (anj _ _ _)
 ·obtain ⟨a0, a1⟩ := fa (by omega)
  have e : ee vs x X p = match aaf (vs.getD x.a.toNat (ai, ai)) p x.n.toNat with | some r => (r, 0) | none => (zR, 13) := by unfold ee; rw [if_neg (by omega), if_neg (by omega), if_neg (by omega), if_neg (by omega), if_neg (by omega), if_neg (by omega), if_pos k] <;> rfl
  rw [e]
  have gp : ∀ n {r}, aaf (vs.getD x.a.toNat (ai, ai)) p n = some r → Gd r := fun n => by
   cases n with
   | zero => intro r h; cases h; exact axy
   | succ n =>
    intro r h
    unfold aaf at h
    rw [Option.bind_eq_some_iff] at h
    obtain ⟨s, hs, h⟩ := h
    split at h
    ·rename_i ok
     cases h
     exact ⟨agn (by omega) ok, vy _ (ra _ _)⟩
    ·cases h
  cases ho : aaf (vs.getD x.a.toNat (ai, ai)) p x.n.toNat with
  | none => exact ⟨Hr.zero _, fun h => absurd h (by decide)⟩
  | some r => exact ⟨(gp _ ho).1.hr.mono (by decide), fun _ _ => gp _ ho⟩
theorem avq {xs : List Nd} {X : Rq} {p : Int} {i : Nat} {vs : List Rq} {x : Nd} {R : Rq} (h : atL xs X p i = .ok vs) (hx : xs.getD i Nd.nil = x) (hs : ee vs x X p = (R, 0)) (hk : okR R = true) : atL xs X p (i + 1) = .ok (vs ++ [R]) := by
 unfold atL; rw [h, hx]; show (match aad vs x X p with | .error c => Except.error c | .ok r => .ok (vs ++ [r])) = _
 unfold aad; rw [hs]; dsimp only; rw [if_pos rfl, hk]; rfl
theorem avp {xs : List Nd} {X : Rq} {p c : Int} {i n : Nat} {vs : List Rq} {x : Nd} {R : Rq} (h : atL xs X p i = .ok vs) (hx : xs.getD i Nd.nil = x) (hs : ee vs x X p = (R, c)) (hc : ¬ c = 0) (hi : i < n) : atL xs X p n = .error c := by
 refine afi (i := i + 1) ?_ hi
 unfold atL; rw [h, hx]; show (match aad vs x X p with | .error c => Except.error c | .ok r => .ok (vs ++ [r])) = _
 unfold aad; rw [hs]; dsimp only; rw [if_neg hc]
theorem aq7 {xs : List Nd} {X : Rq} {p : Int} {i n : Nat} {vs : List Rq} {x : Nd} {R : Rq} (h : atL xs X p i = .ok vs) (hx : xs.getD i Nd.nil = x) (hs : ee vs x X p = (R, 0)) (hk : okR R = false) (hi : i < n) : atL xs X p n = .error 13 := by
 refine afi (i := i + 1) ?_ hi
 unfold atL; rw [h, hx]; show (match aad vs x X p with | .error c => Except.error c | .ok r => .ok (vs ++ [r])) = _
 unfold aad; rw [hs]; dsimp only; rw [if_pos rfl, hk]; rfl
theorem awr {vs : List Rq} {R : Rq} (h : ∀ j, j < vs.length → Gd (vs.getD j (ai, ai))) (hR : Gd R) : ∀ j, j < (vs ++ [R]).length → Gd ((vs ++ [R]).getD j (ai, ai)) := fun j hj => by
 rw [List.length_append] at hj
 have : j < vs.length ∨ j = vs.length := by simp at hj; omega
 rcases this with g | rfl
 ·rw [n4 g]; exact h j g
 ·rw [gf]; exact hR
set_option maxRecDepth 10000 in
set_option maxHeartbeats 16000000 in
theorem a11 {xs : List Nd} {X : Rq} {p : Int} (hn : xs.length < 2^62) (hl : ∀ x ∈ xs, x.r.l.length < 2^32 ∧ x.r.k.length < 2^32) (hx : fu xs = true) (hN : ∀ (i : Nat) (vs : List Rq) (Y R : Rq) (q c : Int), i < xs.length → vs.length = i → (∀ j, j < vs.length → Gd (vs.getD j (ai, ai))) → dy (xs.getD i Nd.nil) vs.length = true → Gd Y → 0 ≤ q ∧ q ≤ 200 → ee vs (xs.getD i Nd.nil) Y q = (R, c) →
   ji Tryz.prog G0 106 [.d (.agg (xs.getD i Nd.nil).cells), .own 1000000 0 xs.length 12, .d (rqD Y), .d (.int .i64 q)] [(1000000, false, fa oc (a9 vs xs.length))] (.d (.tup [rqD R, .int .i64 c])) [(1000000, false, fa oc (a9 vs xs.length))] ∧ Hr 100000 R ∧ (c = 0 → okR R = true → Gd R)) (hX : Nr X) :
  Sim Tryz.prog G0 false 57 [nsl xs, rqD X, .int .i64 p] (atD (atL xs (fv X) (min (max p 2) 200) xs.length)) := by
 have s0 := ud xs hn hl
 rw [hx] at s0
 unfold fu at hx
 simp only [Bool.and_eq_true, decide_eq_true_eq, List.all_eq_true, List.mem_range] at hx
 obtain ⟨⟨n0, n40⟩, hall⟩ := hx
 have s1 := alk (hX.hr.mono (show 20300 ≤ 1000000 by decide)) hX.okR
 have s2 := auu (RqR.of (hX.hr.mono (show 20300 ≤ 1048576 by decide))) (RqR.of (hX.hr.mono (show 20300 ≤ 1048576 by decide))) (hX.hr.mono (by decide)) (hX.hr.mono (by decide)) (aty X)
 have gX : Gd (fv X) := ⟨hX.fv, anq X⟩
 generalize fv X = Y at *
 obtain ⟨q, hq⟩ : ∃ q, min (max p 2) 200 = q := ⟨_, rfl⟩
 have hq2 : 0 ≤ q ∧ q ≤ 200 := by omega
 rw [hq]
 clear hX
 obtain ⟨⟨_, _⟩, ⟨_, _⟩⟩ := X
 obtain ⟨⟨Y1, Y2⟩, ⟨Y3, Y4⟩⟩ := Y
 have stp : ∀ (i : Nat) (vs : List Rq), i < xs.length → vs.length = i → (∀ j, j < vs.length → Gd (vs.getD j (ai, ai))) → ∀ R c, ee vs (xs.getD i Nd.nil) ((Y1, Y2), (Y3, Y4)) q = (R, c) →
   ji Tryz.prog G0 106 [.d (.agg (xs.getD i Nd.nil).cells), .own 1000000 0 xs.length 12, .d (rqD ((Y1, Y2), (Y3, Y4))), .d (.int .i64 q)] [(1000000, false, fa oc (a9 vs xs.length))] (.d (.tup [rqD R, .int .i64 c])) [(1000000, false, fa oc (a9 vs xs.length))] ∧
   Sim Tryz.prog G0 true 104 [rqD R] (.bool (okR R)) ∧ (c = 0 → okR R = true → Gd R) := fun i vs hi hv hg R c hR => by
  subst hv
  obtain ⟨q1, q2, q3⟩ := hN vs.length vs ((Y1, Y2), (Y3, Y4)) R q c hi rfl hg (hall _ hi) gX hq2 hR
  exact ⟨q1, alk (q2.mono (by decide)) rfl, q3⟩
 refine ao (hs := (avo _)) af Tryz.func57 ?_
 repeat' ((conv => whnf); first | refine rgE ?_ | refine Cd.mk rfl ?_)
 refine aoc af 0 rfl [0, 2, 4, 6, 8, 9] [4, 6, 30] (fun m ys h => ∃ (i : Nat) (vs : List Rq), m = xs.length - i ∧ i < xs.length ∧ vs.length = i ∧ atL xs ((Y1, Y2), (Y3, Y4)) q i = .ok vs ∧ (∀ j, j < vs.length → Gd (vs.getD j (ai, ai))) ∧
   ys = [.d (nsl xs), .d (.int .i64 q), .ptr 4 0, .ptr 6 0, .own 30 0 xs.length 12, .d (.int .i64 i)] ∧
   h = [(30, false, fa oc (a9 vs xs.length)), (6, false, zeA ++ zeA ++ zeA ++ zeA), (4, false, (oc (some ((Y1, Y2), (Y3, Y4)))).map A.d)]) ?_ ?_
 ·have hlt : 0 < xs.length := n0
  have hat : atL xs ((Y1, Y2), (Y3, Y4)) q 0 = .ok [] := rfl
  have hvl : ([] : List Rq).length = 0 := rfl
  have hg : ∀ j, j < ([] : List Rq).length → Gd (([] : List Rq).getD j (ai, ai)) := fun j hj => absurd hj (by simp)
  obtain ⟨⟨R, c⟩, hR⟩ : ∃ r, ee [] (xs.getD 0 Nd.nil) ((Y1, Y2), (Y3, Y4)) q = r := ⟨_, rfl⟩
  obtain ⟨st, isr, gdR⟩ := stp 0 [] hlt hvl hg R c hR
  have aok := fun (h0 : c = 0) hk => avq (R := R) hat rfl (show ee [] (xs.getD 0 Nd.nil) ((Y1, Y2), (Y3, Y4)) q = (R, 0) from h0 ▸ hR) hk
  have ano := fun hc => avp (n := xs.length) (R := R) (c := c) hat rfl hR hc hlt
  have abig := fun (h0 : c = 0) hk => aq7 (n := xs.length) (R := R) hat rfl (show ee [] (xs.getD 0 Nd.nil) ((Y1, Y2), (Y3, Y4)) q = (R, 0) from h0 ▸ hR) hk hlt
  have T1 := cg xs 0 hlt
  clear hR
  generalize xs.getD 0 Nd.nil = x at *
  obtain ⟨k, a, b, n', ⟨b1, l1, e1, c1, k1, f1⟩⟩ := x
  obtain ⟨⟨R1, R2⟩, ⟨R3, R4⟩⟩ := R
  have S1 := abw (vs := []) ((R1, R2), (R3, R4)) hlt
  have L1 := qz (vs := []) ((R1, R2), (R3, R4)) hlt
  by_cases hc0 : c = 0
  ·subst hc0
   obtain ⟨t, ht⟩ : ∃ t, okR ((R1, R2), (R3, R4)) = t := ⟨_, rfl⟩
   rw [ht] at isr gdR aok abig
   cases t
   ·rw [abig rfl rfl]
    repeat' ((conv => whnf); first | with_reducible refine ag.data ?_ | refine cx.xr (C := ⟨[7], [], [30], [], []⟩) [(7, 106)] rfl rfl (by kernel_rfl) (by first | rfl | (simp only [ka, List.all_cons, List.all_nil, a5, jy, Bool.or_true, Bool.and_true]; first | done | rfl)) ?_ rfl | refine b7.mk (show Dw.mj _ _ _ _ = true by kernel_rfl) ?_ | refine aa.mk _ _ (s0) ?_ | refine aa.mk _ _ (s1) ?_ | refine aa.mk _ _ (s2) ?_ | refine EqE.mk _ (amv xs.length) ?_ | refine eg.au (st) [(1000000, 30)] [] (.d (.tup [rqD ((R1, R2), (R3, R4)), .int .i64 0])) [(30, false, fa oc (a9 [] xs.length))] ?_ | refine aa.mk _ _ (isr) ?_ | refine Cd.mk (ba xs _ (by omega)) ?_ | ((with_reducible show TkE (List.drop _ (List.flatMap Nd.cells _)) _ _ _); refine TkE.mk _ T1 rfl ?_) | refine rgE ?_ | refine Cd.mk rfl ?_ | refine Br.t ?_ | refine Br.f ?_ | refine ah.mk _ rfl ?_ | (refine TkE.fL ?_; (conv => whnf); fail_if_success (show ae _ _)) | refine Res.mk ?_ | ((with_reducible refine EqE.idI ?_); first | refine EqE.mk _ (max_eq _ _) ?_ | refine EqE.mk q ((min_eq _ _).trans hq) ?_) | ((with_reducible refine EqE.idS ?_); (refine EqE.fP ?_; (conv => whnf); fail_if_success (show ae _ _))) | refine Cd.ol ?_ | refine Cd.os ?_)
    rw [show atD (.error 13) = D.tup [rqD zR, .int .i64 13] from rfl, ← x7]; rfl
   ·have aok := aok rfl rfl
    have gd := gdR rfl rfl
    by_cases hnx : 0 + 1 < xs.length
    ·repeat' ((conv => whnf); first | with_reducible refine ag.data ?_ | refine cx.xr (C := ⟨[7], [], [30], [], []⟩) [(7, 106)] rfl rfl (by kernel_rfl) (by first | rfl | (simp only [ka, List.all_cons, List.all_nil, a5, jy, Bool.or_true, Bool.and_true]; first | done | rfl)) ?_ rfl | refine b7.mk (show Dw.mj _ _ _ _ = true by kernel_rfl) ?_ | refine aa.mk _ _ (s0) ?_ | refine aa.mk _ _ (s1) ?_ | refine aa.mk _ _ (s2) ?_ | refine EqE.mk _ (amv xs.length) ?_ | ((with_reducible refine Br.ck ?hpp ?_); case hpp => first | omega | (dsimp only; omega)) | refine eg.au (st) [(1000000, 30)] [] (.d (.tup [rqD ((R1, R2), (R3, R4)), .int .i64 0])) [(30, false, fa oc (a9 [] xs.length))] ?_ | refine aa.mk _ _ (isr) ?_ | refine Cd.mk (ba xs _ (by omega)) ?_ | ((with_reducible show TkE (List.drop _ (List.flatMap Nd.cells _)) _ _ _); refine TkE.mk _ T1 rfl ?_) | refine Cd.mk (sd (vs := []) hlt) ?_ | refine rgE ?_ | refine Cd.mk rfl ?_ | refine Br.f ?_ | refine ah.mk _ rfl ?_ | (refine TkE.fL ?_; (conv => whnf); fail_if_success (show ae _ _)) | ((with_reducible refine EqE.idW ?_); refine EqE.mk ((0 : Int) + 1) (aj (by omega) (by omega)) ?_) | ((with_reducible refine EqE.idI ?_); first | refine EqE.mk _ (max_eq _ _) ?_ | refine EqE.mk q ((min_eq _ _).trans hq) ?_) | ((with_reducible refine EqE.idS ?_); first | ((with_reducible show EqE (setAt (fa oc _) _ _) _); refine EqE.mk _ S1 ?_) | (refine EqE.fP ?_; (conv => whnf); fail_if_success (show ae _ _))) | refine Cd.ol ?_ | refine Cd.os ?_)
     exact ⟨_, _, _, ⟨.inl rfl, rfl, rfl, az _ _ _ _ _ _ rfl⟩, 1, [((R1, R2), (R3, R4))], rfl, hnx, rfl, aok, awr (vs := []) hg gd, rfl, rfl⟩
    ·have hlen : xs.length = 0 + 1 := by omega
     have fin : atD (atL xs ((Y1, Y2), (Y3, Y4)) q xs.length) = .tup [rqD ((R1, R2), (R3, R4)), .int .i64 0] := by
      rw [hlen, aok]; unfold atD; dsimp only; rw [List.length_append, List.length_singleton, Nat.add_sub_cancel, gf]
     rw [fin]
     repeat' ((conv => whnf); first | with_reducible refine ag.data ?_ | refine cx.xr (C := ⟨[7], [], [30], [], []⟩) [(7, 106)] rfl rfl (by kernel_rfl) (by first | rfl | (simp only [ka, List.all_cons, List.all_nil, a5, jy, Bool.or_true, Bool.and_true]; first | done | rfl)) ?_ rfl | refine b7.mk (show Dw.mj _ _ _ _ = true by kernel_rfl) ?_ | refine aa.mk _ _ (s0) ?_ | refine aa.mk _ _ (s1) ?_ | refine aa.mk _ _ (s2) ?_ | refine EqE.mk _ (amv xs.length) ?_ | ((with_reducible refine Br.b4 ?hpp ?_); case hpp => first | omega | (dsimp only; omega)) | refine eg.au (st) [(1000000, 30)] [] (.d (.tup [rqD ((R1, R2), (R3, R4)), .int .i64 0])) [(30, false, fa oc (a9 [] xs.length))] ?_ | refine aa.mk _ _ (isr) ?_ | refine Cd.mk (ba xs _ (by omega)) ?_ | ((with_reducible show TkE (List.drop _ (List.flatMap Nd.cells _)) _ _ _); refine TkE.mk _ T1 rfl ?_) | refine Cd.mk (sd (vs := []) hlt) ?_ | ((with_reducible show TkE (fa oc (a9 _ _)) _ _ _); refine TkE.mk _ L1 rfl ?_) | refine rgE ?_ | refine Cd.mk rfl ?_ | refine Br.f ?_ | refine ah.mk _ rfl ?_ | (refine TkE.fL ?_; (conv => whnf); fail_if_success (show ae _ _)) | refine Res.mk ?_ | ((with_reducible refine EqE.idW ?_); first | refine EqE.mk ((0 : Int) + 1) (aj (by omega) (by omega)) ?_ | refine EqE.mk (0 : Int) ((aj (by omega) (by omega)).trans (by omega)) ?_) | ((with_reducible refine EqE.idI ?_); first | refine EqE.mk _ (max_eq _ _) ?_ | refine EqE.mk q ((min_eq _ _).trans hq) ?_) | ((with_reducible refine EqE.idS ?_); first | ((with_reducible show EqE (setAt (fa oc _) _ _) _); refine EqE.mk _ S1 ?_) | (refine EqE.fP ?_; (conv => whnf); fail_if_success (show ae _ _))) | refine Cd.ol ?_ | refine Cd.os ?_)
     rfl
  ·rw [ano hc0]
   repeat' ((conv => whnf); first | with_reducible refine ag.data ?_ | refine cx.xr (C := ⟨[7], [], [30], [], []⟩) [(7, 106)] rfl rfl (by kernel_rfl) (by first | rfl | (simp only [ka, List.all_cons, List.all_nil, a5, jy, Bool.or_true, Bool.and_true]; first | done | rfl)) ?_ rfl | refine b7.mk (show Dw.mj _ _ _ _ = true by kernel_rfl) ?_ | refine aa.mk _ _ (s0) ?_ | refine aa.mk _ _ (s1) ?_ | refine aa.mk _ _ (s2) ?_ | refine EqE.mk _ (amv xs.length) ?_ | with_reducible refine Br.ac1 (fun _ => ?_) (fun h => absurd h hc0) | refine eg.au (st) [(1000000, 30)] [] (.d (.tup [rqD ((R1, R2), (R3, R4)), .int .i64 c])) [(30, false, fa oc (a9 [] xs.length))] ?_ | refine Cd.mk (ba xs _ (by omega)) ?_ | ((with_reducible show TkE (List.drop _ (List.flatMap Nd.cells _)) _ _ _); refine TkE.mk _ T1 rfl ?_) | refine rgE ?_ | refine Cd.mk rfl ?_ | refine Br.f ?_ | refine ah.mk _ rfl ?_ | (refine TkE.fL ?_; (conv => whnf); fail_if_success (show ae _ _)) | refine Res.mk ?_ | ((with_reducible refine EqE.idI ?_); first | refine EqE.mk _ (max_eq _ _) ?_ | refine EqE.mk q ((min_eq _ _).trans hq) ?_) | ((with_reducible refine EqE.idS ?_); (refine EqE.fP ?_; (conv => whnf); fail_if_success (show ae _ _))) | refine Cd.ol ?_ | refine Cd.os ?_)
   rw [show atD (.error c) = D.tup [rqD zR, .int .i64 c] from rfl, ← x7]; rfl
 ·rintro m ys h ⟨i, vs, rfl, hlt, hvl, hat, hg, rfl, rfl⟩
  obtain ⟨⟨R, c⟩, hR⟩ : ∃ r, ee vs (xs.getD i Nd.nil) ((Y1, Y2), (Y3, Y4)) q = r := ⟨_, rfl⟩
  obtain ⟨st, isr, gdR⟩ := stp i vs hlt hvl hg R c hR
  have aok := fun (h0 : c = 0) hk => avq (R := R) hat rfl (show ee vs (xs.getD i Nd.nil) ((Y1, Y2), (Y3, Y4)) q = (R, 0) from h0 ▸ hR) hk
  have ano := fun hc => avp (n := xs.length) (R := R) (c := c) hat rfl hR hc hlt
  have abig := fun (h0 : c = 0) hk => aq7 (n := xs.length) (R := R) hat rfl (show ee vs (xs.getD i Nd.nil) ((Y1, Y2), (Y3, Y4)) q = (R, 0) from h0 ▸ hR) hk hlt
  have T1 := cg xs i hlt
  clear hR
  generalize xs.getD i Nd.nil = x at *
  obtain ⟨k, a, b, n', ⟨b1, l1, e1, c1, k1, f1⟩⟩ := x
  obtain ⟨⟨R1, R2⟩, ⟨R3, R4⟩⟩ := R
  subst hvl
  have S1 := abw (vs := vs) ((R1, R2), (R3, R4)) hlt
  have L1 := qz (vs := vs) ((R1, R2), (R3, R4)) hlt
  by_cases hc0 : c = 0
  ·subst hc0
   obtain ⟨t, ht⟩ : ∃ t, okR ((R1, R2), (R3, R4)) = t := ⟨_, rfl⟩
   rw [ht] at isr gdR aok abig
   cases t
   ·rw [abig rfl rfl]
    repeat' ((conv => whnf); first | with_reducible refine ag.data ?_ | refine cx.xr (C := ⟨[7], [], [30], [], []⟩) [(7, 106)] rfl rfl (by kernel_rfl) (by first | rfl | (simp only [ka, List.all_cons, List.all_nil, a5, jy, Bool.or_true, Bool.and_true]; first | done | rfl)) ?_ rfl | refine b7.mk (show Dw.mj _ _ _ _ = true by kernel_rfl) ?_ | refine eg.au (st) [(1000000, 30)] [] (.d (.tup [rqD ((R1, R2), (R3, R4)), .int .i64 0])) [(30, false, fa oc (a9 vs xs.length))] ?_ | refine aa.mk _ _ (isr) ?_ | refine Cd.mk (ba xs _ (by omega)) ?_ | ((with_reducible show TkE (List.drop _ (List.flatMap Nd.cells _)) _ _ _); refine TkE.mk _ T1 rfl ?_) | refine rgE ?_ | refine Cd.mk rfl ?_ | refine Br.t ?_ | refine Br.f ?_ | refine ah.mk _ rfl ?_ | (refine TkE.fL ?_; (conv => whnf); fail_if_success (show ae _ _)) | refine Res.mk ?_ | ((with_reducible refine EqE.idS ?_); (refine EqE.fP ?_; (conv => whnf); fail_if_success (show ae _ _))) | refine Cd.ol ?_)
    rw [show atD (.error 13) = D.tup [rqD zR, .int .i64 13] from rfl, ← x7]; rfl
   ·have aok := aok rfl rfl
    have gd := gdR rfl rfl
    by_cases hnx : vs.length + 1 < xs.length
    ·repeat' ((conv => whnf); first | with_reducible refine ag.data ?_ | refine cx.xr (C := ⟨[7], [], [30], [], []⟩) [(7, 106)] rfl rfl (by kernel_rfl) (by first | rfl | (simp only [ka, List.all_cons, List.all_nil, a5, jy, Bool.or_true, Bool.and_true]; first | done | rfl)) ?_ rfl | refine b7.mk (show Dw.mj _ _ _ _ = true by kernel_rfl) ?_ | ((with_reducible refine Br.ck ?hpp ?_); case hpp => first | omega | (dsimp only; omega)) | refine eg.au (st) [(1000000, 30)] [] (.d (.tup [rqD ((R1, R2), (R3, R4)), .int .i64 0])) [(30, false, fa oc (a9 vs xs.length))] ?_ | refine aa.mk _ _ (isr) ?_ | refine Cd.mk (ba xs _ (by omega)) ?_ | ((with_reducible show TkE (List.drop _ (List.flatMap Nd.cells _)) _ _ _); refine TkE.mk _ T1 rfl ?_) | refine Cd.mk (sd (vs := vs) hlt) ?_ | refine an.go _ _ ⟨.inl rfl, rfl, rfl, az _ _ _ _ _ _ rfl⟩ ?_ | refine rgE ?_ | refine Cd.mk rfl ?_ | refine Br.f ?_ | refine ah.mk _ rfl ?_ | (refine TkE.fL ?_; (conv => whnf); fail_if_success (show ae _ _)) | ((with_reducible refine EqE.idW ?_); refine EqE.mk ((((vs.length : Nat) : Int) : Int) + 1) (aj (by omega) (by omega)) ?_) | ((with_reducible refine EqE.idS ?_); first | ((with_reducible show EqE (setAt (fa oc _) _ _) _); refine EqE.mk _ S1 ?_) | (refine EqE.fP ?_; (conv => whnf); fail_if_success (show ae _ _))) | refine Cd.ol ?_ | refine Cd.os ?_)
     exact ⟨_, ⟨vs.length + 1, vs ++ [((R1, R2), (R3, R4))], rfl, hnx, by simp, aok, awr hg gd, rfl, rfl⟩, by omega⟩
    ·have hlen : xs.length = vs.length + 1 := by omega
     have fin : atD (atL xs ((Y1, Y2), (Y3, Y4)) q xs.length) = .tup [rqD ((R1, R2), (R3, R4)), .int .i64 0] := by
      rw [hlen, aok]; unfold atD; dsimp only; rw [List.length_append, List.length_singleton, Nat.add_sub_cancel, gf]
     rw [fin]
     repeat' ((conv => whnf); first | with_reducible refine ag.data ?_ | refine cx.xr (C := ⟨[7], [], [30], [], []⟩) [(7, 106)] rfl rfl (by kernel_rfl) (by first | rfl | (simp only [ka, List.all_cons, List.all_nil, a5, jy, Bool.or_true, Bool.and_true]; first | done | rfl)) ?_ rfl | refine b7.mk (show Dw.mj _ _ _ _ = true by kernel_rfl) ?_ | ((with_reducible refine Br.b4 ?hpp ?_); case hpp => first | omega | (dsimp only; omega)) | refine eg.au (st) [(1000000, 30)] [] (.d (.tup [rqD ((R1, R2), (R3, R4)), .int .i64 0])) [(30, false, fa oc (a9 vs xs.length))] ?_ | refine aa.mk _ _ (isr) ?_ | refine Cd.mk (ba xs _ (by omega)) ?_ | ((with_reducible show TkE (List.drop _ (List.flatMap Nd.cells _)) _ _ _); refine TkE.mk _ T1 rfl ?_) | refine Cd.mk (sd (vs := vs) hlt) ?_ | ((with_reducible show TkE (fa oc (a9 _ _)) _ _ _); refine TkE.mk _ L1 rfl ?_) | refine rgE ?_ | refine Cd.mk rfl ?_ | refine Br.f ?_ | refine ah.mk _ rfl ?_ | (refine TkE.fL ?_; (conv => whnf); fail_if_success (show ae _ _)) | refine Res.mk ?_ | ((with_reducible refine EqE.idW ?_); first | refine EqE.mk ((((vs.length : Nat) : Int) : Int) + 1) (aj (by omega) (by omega)) ?_ | refine EqE.mk (((vs.length : Nat) : Int) : Int) ((aj (by omega) (by omega)).trans (by omega)) ?_) | ((with_reducible refine EqE.idS ?_); first | ((with_reducible show EqE (setAt (fa oc _) _ _) _); refine EqE.mk _ S1 ?_) | (refine EqE.fP ?_; (conv => whnf); fail_if_success (show ae _ _))) | refine Cd.ol ?_ | refine Cd.os ?_)
     rfl
  ·rw [ano hc0]
   repeat' ((conv => whnf); first | refine cx.xr (C := ⟨[7], [], [30], [], []⟩) [(7, 106)] rfl rfl (by kernel_rfl) (by first | rfl | (simp only [ka, List.all_cons, List.all_nil, a5, jy, Bool.or_true, Bool.and_true]; first | done | rfl)) ?_ rfl | refine b7.mk (show Dw.mj _ _ _ _ = true by kernel_rfl) ?_ | with_reducible refine Br.ac1 (fun _ => ?_) (fun h => absurd h hc0) | refine eg.au (st) [(1000000, 30)] [] (.d (.tup [rqD ((R1, R2), (R3, R4)), .int .i64 c])) [(30, false, fa oc (a9 vs xs.length))] ?_ | refine Cd.mk (ba xs _ (by omega)) ?_ | ((with_reducible show TkE (List.drop _ (List.flatMap Nd.cells _)) _ _ _); refine TkE.mk _ T1 rfl ?_) | refine rgE ?_ | refine Cd.mk rfl ?_ | refine ah.mk _ rfl ?_ | (refine TkE.fL ?_; (conv => whnf); fail_if_success (show ae _ _)) | refine Res.mk ?_ | ((with_reducible refine EqE.idS ?_); (refine EqE.fP ?_; (conv => whnf); fail_if_success (show ae _ _))) | refine Cd.ol ?_)
   rw [show atD (.error c) = D.tup [rqD zR, .int .i64 c] from rfl, ← x7]; rfl
end Go.Ev.Ar
