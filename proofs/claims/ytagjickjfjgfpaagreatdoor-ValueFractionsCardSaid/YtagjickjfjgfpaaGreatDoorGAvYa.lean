/- Contracts of the given functions, on data. Conditions stand in each theorem. -/
import Derived.Test.YtagjickjfjgfpaaGreatDoorGEvR
import Derived.Test.YtagjickjfjgfpaaGreatDoorGAvVy
set_option linter.unusedSimpArgs false
set_option linter.unusedVariables false
namespace Go.Ev.Ar
open Go Go.Ev Go.Proofs
def cRC (z : Cq) : RC := ⟨a7 (aj z.1), ofN (aj z.1).natAbs, ar z.1, a7 (aj z.2), ofN (aj z.2).natAbs, ar z.2⟩
theorem uu (z : Cq) : (cRC z).val = z := by
 unfold RC.val cRC
 dsimp only
 rw [p5, p5, br, br]
def kF (a b : Cq) : List Nd := [⟨2, 0, 0, 0, cRC a⟩, ⟨2, 0, 0, 0, cRC b⟩, ⟨6, 0, 1, 0, RC.nil⟩]
theorem r7 {h : Nat} {q : Dyadic} (hq : Ht h q) (hh : h ≤ 20000) : dOk q = true := by
 have := hq.parts
 exact x7.2 ⟨by omega, by omega⟩
theorem au2 {z : Cq} (hz : Hc 104 z) : (fy (cRC z).b (cRC z).l (cRC z).e && fy (cRC z).c (cRC z).k (cRC z).f) = true := by
 have a := r7 hz.1 (by decide)
 have b := r7 hz.2 (by decide)
 unfold dOk at a b
 unfold cRC
 dsimp only
 rw [a, b]; rfl
theorem a0h {a b : Cq} (ha : Hc 104 a) (hb : Hc 104 b) : gu (kF a b) = true := by
 have h1 := au2 ha
 have h2 := au2 hb
 have n1 : k9 ⟨2, 0, 0, 0, cRC a⟩ 0 = true := by unfold k9; rw [if_neg (show ¬ (2 : Int) = 7 by decide), h1]; rfl
 have n2 : k9 ⟨2, 0, 0, 0, cRC b⟩ 1 = true := by unfold k9; rw [if_neg (show ¬ (2 : Int) = 7 by decide), h2]; rfl
 have n3 : k9 ⟨6, 0, 1, 0, RC.nil⟩ 2 = true := by kernel_rfl
 unfold gu
 simp only [Bool.and_eq_true, decide_eq_true_eq, List.all_eq_true, List.mem_range]
 refine ⟨⟨show 0 < 3 by decide, show 3 ≤ 40 by decide⟩, fun i hi => ?_⟩
 have hi : i < 3 := hi
 have : i = 0 ∨ i = 1 ∨ i = 2 := by omega
 rcases this with rfl | rfl | rfl
 ·exact n1
 ·exact n2
 ·exact n3
theorem au8 (a b : Cq) : (⟨2, 0, 0, 0, cRC a⟩ : Nd).r.val = a ∧ (⟨2, 0, 0, 0, cRC b⟩ : Nd).r.val = b := ⟨uu a, uu b⟩
theorem au5 (a b z : Cq) : exL (kF a b) z 2 = some [(a, ag), (b, ag)] := by
 have s0 : exL (kF a b) z 0 = some [] := rfl
 have s1 := aau (r := (a, ag)) s0 (x := ⟨2, 0, 0, 0, cRC a⟩) rfl (by unfold b9; rw [if_neg (show ¬ (2 : Int) = 1 by decide), if_pos rfl, (au8 a b).1]) (by show ag ≠ (0, 0); decide)
 exact aau (r := (b, ag)) s1 (x := ⟨2, 0, 0, 0, cRC b⟩) rfl (by unfold b9; rw [if_neg (show ¬ (2 : Int) = 1 by decide), if_pos rfl, (au8 a b).2]) (by show ag ≠ (0, 0); decide)
theorem a0i (a b z : Cq) : b9 [(a, ag), (b, ag)] ⟨6, 0, 1, 0, RC.nil⟩ z = some (df (a, ag) (ag, b)) := by
 unfold b9; rw [if_neg (by decide), if_neg (by decide), if_neg (by decide), if_neg (by decide), if_neg (by decide), if_pos rfl]; rfl
theorem ays {a b z : Cq} (hb : b ≠ (0, 0)) : exL (kF a b) z 3 = some ([(a, ag), (b, ag)] ++ [df (a, ag) (ag, b)]) :=
 aau (au5 a b z) (x := ⟨6, 0, 1, 0, RC.nil⟩) rfl (a0i a b z) (kt (by show ag ≠ (0, 0); decide) hb)
theorem ayr {a b z : Cq} (hb : b = (0, 0)) : exL (kF a b) z 3 = none := by
 subst hb
 unfold exL
 rw [au5]
 have : j8 [(a, ag), ((0, 0), ag)] ⟨6, 0, 1, 0, RC.nil⟩ z = none := aug (a0i a (0, 0) z) (by kernel_rfl)
 show Option.map (fun r => [(a, ag), ((0, 0), ag)] ++ [r]) (j8 [(a, ag), ((0, 0), ag)] ⟨6, 0, 1, 0, RC.nil⟩ z) = none
 rw [this]; rfl
theorem a20 {a b : Cq} {d : Cr} (hd : tc b * d = 1) : Vl (df (a, ag) (ag, b)) (tc a * d) ∧ Vl (a, b) (tc a * d) := by
 have b0 : b ≠ (0, 0) := fun g => by
  rw [g, abo] at hd
  have h0 : (0 : Cr) = 1 := by grind
  have := congrArg Cr.re h0
  exact absurd this (by decide)
 have h1 := (xy a).times ((xy b).as0 hd)
 refine ⟨h1, b0, ?_⟩
 show tc a = tc a * d * tc b
 have : tc a * d * tc b = tc a * (tc b * d) := by grind
 rw [this, hd]; grind
theorem a1h {a b : Cq} (X : Rq) (p : Int) (ha : Hc 104 a) (hb : Hc 104 b) : atL (kF a b) X p 2 = .ok [ptR a, ptR b] := by
 have o : ∀ {c : Cq}, Hc 104 c → okR (ptR c) = true := fun {c} hc => aeb.2 ⟨⟨r7 hc.1 (by decide), r7 hc.1 (by decide)⟩, r7 hc.2 (by decide), r7 hc.2 (by decide)⟩
 have st : ∀ {c : Cq} (vs : List Rq), Hc 104 c → fv vs ⟨2, 0, 0, 0, cRC c⟩ X p = .ok (ptR c) := fun {c} vs hc => by
  have e : ca vs ⟨2, 0, 0, 0, cRC c⟩ X p = (ptR c, 0) := by unfold ca; rw [if_neg (show ¬ (2 : Int) = 1 by decide), if_pos rfl]; dsimp only; rw [uu]
  unfold fv
  rw [e]; dsimp only; rw [if_pos rfl, if_pos (o hc)]
 have s1 : atL (kF a b) X p 1 = .ok [ptR a] := by
  unfold atL
  show (match fv [] ⟨2, 0, 0, 0, cRC a⟩ X p with | Except.error c => (Except.error c : Except Int (List Rq)) | Except.ok r => Except.ok ([] ++ [r])) = _
  rw [st _ ha]; rfl
 unfold atL
 rw [s1]
 show (match fv [ptR a] ⟨2, 0, 0, 0, cRC b⟩ X p with | Except.error c => (Except.error c : Except Int (List Rq)) | Except.ok r => Except.ok ([ptR a] ++ [r])) = _
 rw [st _ hb]; rfl
theorem a1i {a b : Cq} (X : Rq) (p : Int) (ha : Hc 104 a) (hb : Hc 104 b) : atL (kF a b) X p 3 = match fv [ptR a, ptR b] ⟨6, 0, 1, 0, RC.nil⟩ X p with
  | .error c => .error c
  | .ok r => .ok ([ptR a, ptR b] ++ [r]) := by
 unfold atL
 rw [a1h X p ha hb]; rfl
theorem au4 {a b : Cq} (X : Rq) (p : Int) : ca [ptR a, ptR b] ⟨6, 0, 1, 0, RC.nil⟩ X p = roA (fq (ptR a) (ptR b) (p + 20)) p := by
 unfold ca; rw [if_neg (by decide), if_neg (by decide), if_neg (by decide), if_neg (by decide), if_neg (by decide), if_pos rfl]; rfl
theorem ap1 {a b : Cq} (X : Rq) (p : Int) (hp : 0 ≤ p ∧ p ≤ 200) (ha : Hc 104 a) (hb : Hc 104 b) :
  atL (kF a b) X p 3 = .error 11 ∨ (b ≠ (0, 0) ∧ ∃ r, atL (kF a b) X p 3 = .ok ([ptR a, ptR b] ++ [r]) ∧ Hr 20000 r ∧ ∀ d, tc b * d = 1 → fp r (tc a * d)) := by
 rw [a1i X p ha hb]
 have hpa : Hr 104 (ptR a) := ⟨⟨ha.1, ha.1⟩, ha.2, ha.2⟩
 have hpb : Hr 104 (ptR b) := ⟨⟨hb.1, hb.1⟩, hb.2, hb.2⟩
 have hh : Hr 4000 (fq (ptR a) (ptR b) (p + 20)).1 := (Hr.fq hpa hpb (p := p + 20) (K := 220) (by omega)).mono (by decide)
 rcases acp (z := ptR a) (w := ptR b) (p + 20) with c | c
 ·left
  have e : ca [ptR a, ptR b] ⟨6, 0, 1, 0, RC.nil⟩ X p = (zR, 11) := by rw [au4]; unfold roA; rw [if_neg (by omega), c]
  unfold fv
  rw [e]; dsimp only; rw [if_neg (by decide)]
 ·right
  have e : ca [ptR a, ptR b] ⟨6, 0, 1, 0, RC.nil⟩ X p = (ba (fq (ptR a) (ptR b) (p + 20)).1 (p + 20), 0) := by rw [au4]; unfold roA; rw [if_pos c]
  have hr : Hr 20000 (ba (fq (ptR a) (ptR b) (p + 20)).1 (p + 20)) := (hh.ba (p := p + 20) (K := 220) (by omega)).mono (by decide)
  have ok : okR (ba (fq (ptR a) (ptR b) (p + 20)).1 (p + 20)) = true := aeb.2 ⟨⟨r7 hr.1.1 (by decide), r7 hr.1.2 (by decide)⟩, r7 hr.2.1 (by decide), r7 hr.2.2 (by decide)⟩
  refine ⟨fun g => ?_, _, by unfold fv; rw [e]; dsimp only; rw [if_pos rfl, if_pos ok], hr, fun d hd => kd _ (ahw _ (xp a) (xp b) c hd)⟩
  have z : fp (ptR b) 0 := by rw [← abo, ← g]; exact xp b
  rw [ah1 (z := ptR a) (p + 20) z] at c
  exact absurd c (by show ¬ ((11 : Int) = 0); decide)
theorem ayt {a b : Cq} (X : Rq) (p : Int) (hp : 0 ≤ p ∧ p ≤ 200) (ha : Hc 104 a) (hb : Hc 104 b) (g : b = (0, 0)) : atL (kF a b) X p 3 = .error 11 := by
 rcases ap1 X p hp ha hb with h | ⟨h, _⟩
 ·exact h
 ·exact absurd g h
theorem akz {z : Cq} {r : RC} (hz : r.few 2 40 = true) (e : r.val = z) : Nq z.1 ∧ Nq z.2 := by
 have h := (dz hz).2.2
 subst e
 have one : ∀ {q : Dyadic}, Ht 104 q → Nq q := fun {q} h => ⟨(h.parts.1).mono (by decide), by have := h.parts; omega, by have := h.parts; omega⟩
 exact ⟨one h.1, one h.2⟩
end Go.Ev.Ar

namespace Go.Ev.Ar
open Go Go.Ev Go.Proofs
def kfc (a b : Cq) : List D := [.int .i64 2, .int .i64 0, .int .i64 0, .int .i64 0, .bool (a7 (aj a.1)), sl (ofN (aj a.1).natAbs), .int .i64 (ar a.1), .bool (a7 (aj a.2)), sl (ofN (aj a.2).natAbs), .int .i64 (ar a.2),
 .int .i64 2, .int .i64 0, .int .i64 0, .int .i64 0, .bool (a7 (aj b.1)), sl (ofN (aj b.1).natAbs), .int .i64 (ar b.1), .bool (a7 (aj b.2)), sl (ofN (aj b.2).natAbs), .int .i64 (ar b.2),
 .int .i64 6, .int .i64 0, .int .i64 1, .int .i64 0, .bool false, .nil, .int .i64 0, .bool false, .nil, .int .i64 0]
theorem au7 {a b : Cq} (ha : Hc 104 a) (hb : Hc 104 b) : ∀ x ∈ kF a b, Few x := by
 have one : ∀ {c : Cq}, Hc 104 c → Few ⟨2, 0, 0, 0, cRC c⟩ := fun {c} hc => ⟨Nat.lt_of_le_of_lt (hc.1.parts.1.len (k := 7) (by decide)) (by decide), Nat.lt_of_le_of_lt (hc.2.parts.1.len (k := 7) (by decide)) (by decide)⟩
 intro x hx
 simp only [kF, List.mem_cons, List.not_mem_nil, or_false] at hx
 rcases hx with rfl | rfl | rfl
 ·exact one ha
 ·exact one hb
 ·exact n9 ..
theorem ayq {a b : Cq} {i : Nat} (h : i < (kF a b).length) : i = 0 ∨ i = 1 ∨ i = 2 := by have : (kF a b).length = 3 := rfl; omega
theorem au6 {a b : Cq} (ha : Hc 104 a) (hb : Hc 104 b) : Sim Tryz.prog G0 false 47 [.slice 3 (kfc a b), .agg RC.nil.cells] (exR (exL (kF a b) RC.nil.val 3)) := by
 have h := z9 (xs := kF a b) (rz := RC.nil) (by show 3 < 2^62; decide) (au7 ha hb) (dz (r := RC.nil) (by kernel_rfl)).1 (dz (r := RC.nil) (by kernel_rfl)).2.2 (fun i hi => by
  rcases ayq hi with rfl | rfl | rfl
  ·show Hc 104 (cRC a).val; rw [uu]; exact ha
  ·show Hc 104 (cRC b).val; rw [uu]; exact hb
  ·exact (dz (r := RC.nil) (by kernel_rfl)).2.2) (a0h ha hb) (fun i hi => by
  rcases ayq hi with rfl | rfl | rfl
  ·exact (by decide : (1 : Int) ≤ 60)
  ·exact (by decide : (1 : Int) ≤ 60)
  ·exact (by decide : (3 : Int) ≤ 60))
 exact uf (cs := kfc a b) (n := 3) h
theorem a2z {a b : Cq} {X : Rq} (p : Int) (ha : Hc 104 a) (hb : Hc 104 b) (na : Nq a.1 ∧ Nq a.2) (nb : Nq b.1 ∧ Nq b.2) (hX : Nr X) : Sim Tryz.prog G0 false 57 [.slice 3 (kfc a b), rqD X, .int .i64 p] (atD (atL (kF a b) (c9 X) (min (max p 2) 200) 3)) := by
 have h := aek (xs := kF a b) (X := X) (p := p) (by show 3 < 2^62; decide) (au7 ha hb) (a0h ha hb) (fun i hi => by
  rcases ayq hi with rfl | rfl | rfl
  ·exact (show (2 : Int) ≤ 7 by decide)
  ·exact (show (2 : Int) ≤ 7 by decide)
  ·exact (show (6 : Int) ≤ 7 by decide)) (fun i hi hk => by
  rcases ayq hi with rfl | rfl | rfl
  ·show Nq (cRC a).val.1 ∧ Nq (cRC a).val.2; rw [uu]; exact na
  ·show Nq (cRC b).val.1 ∧ Nq (cRC b).val.2; rw [uu]; exact nb
  ·exact absurd hk (show ¬ (6 : Int) = 2 by decide)) hX
 exact uf (cs := kfc a b) (n := 3) h
theorem a3i : Nr zR := ⟨⟨Nq.zero, Nq.zero⟩, Nq.zero, Nq.zero⟩
set_option maxRecDepth 10000 in
set_option maxHeartbeats 8000000 in
theorem a3f (kn : KN) (ra rb : RC) (n : Int) (h0 : 0 ≤ n) (h1 : n ≤ 255) : Sim Tryz.prog G0 true 11 [.agg ra.cells, .agg rb.cells, .int .u8 n] (.bool true) := by
 have s1 := fo ra
 have s2 := fo rb
 cases h2 : ra.few 2 40
 ·rw [h2] at s1
  obtain ⟨b1, l1, e1, c1, k1, f1⟩ := ra
  obtain ⟨b2, l2, e2, c2, k2, f2⟩ := rb
  refine an af Tryz.func11 ?_
  repeat' ((conv => whnf); first | with_reducible refine ah.data ?_ | refine aa.mk _ _ (kn) ?_ | refine aa.mk _ _ (s1) ?_ | refine rgE ?_ | refine Cd.mk rfl ?_ | refine Br.t ?_ | refine Br.f ?_ | (refine TkE.fL ?_; (conv => whnf); fail_if_success (show ae _ _)) | refine Res.mk ?_)
  all_goals rfl
 cases h3 : rb.few 2 40
 ·rw [h2] at s1
  rw [h3] at s2
  obtain ⟨b1, l1, e1, c1, k1, f1⟩ := ra
  obtain ⟨b2, l2, e2, c2, k2, f2⟩ := rb
  refine an af Tryz.func11 ?_
  repeat' ((conv => whnf); first | with_reducible refine ah.data ?_ | refine aa.mk _ _ (kn) ?_ | refine aa.mk _ _ (s1) ?_ | refine aa.mk _ _ (s2) ?_ | refine rgE ?_ | refine Cd.mk rfl ?_ | refine Br.t ?_ | refine Br.f ?_ | (refine TkE.fL ?_; (conv => whnf); fail_if_success (show ae _ _)) | refine Res.mk ?_)
  all_goals rfl
 obtain ⟨aR, aF, aH⟩ := dz h2
 obtain ⟨bR, bF, bH⟩ := dz h3
 have na := akz h2 rfl
 have nb := akz h3 rfl
 rw [h2] at s1
 rw [h3] at s2
 have g1 := ua aF
 have g2 := ua bF
 have E := au6 aH bH
 have A := a2z n aH bH na nb a3i
 have told := ap1 (c9 zR) (min (max n 2) 200) (by omega) aH bH
 have tzero := ayt (c9 zR) (min (max n 2) 200) (by omega) aH bH
 have ksome := fun h => ays (a := ra.val) (b := rb.val) (z := RC.nil.val) h
 have knone := fun h => ayr (a := ra.val) (b := rb.val) (z := RC.nil.val) h
 clear na nb aR bR aF bF
 generalize ra.val = a at *
 generalize rb.val = b at *
 by_cases b0 : b = (0, 0)
 ·have z1 : Sim Tryz.prog G0 true 50 [cxD b] (.bool true) := eu (bH.mono (by decide)) (decide_eq_true b0)
  rw [knone b0] at E
  rw [tzero b0] at A
  unfold exR at E
  rw [show atD (.error 11) = D.tup [rqD zR, .int .i64 11] from rfl] at A
  rw [← n4] at A
  dsimp only at E
  clear told tzero ksome knone b0
  obtain ⟨b1, l1, e1, c1, k1, f1⟩ := ra
  obtain ⟨b2, l2, e2, c2, k2, f2⟩ := rb
  obtain ⟨a1, a2⟩ := a
  obtain ⟨b3, b4⟩ := b
  rw [← wu] at E
  refine an af Tryz.func11 ?_
  repeat' ((conv => whnf); first | with_reducible refine ah.data ?_ | refine aa.mk _ _ (kn) ?_ | refine aa.mk _ _ (s1) ?_ | refine aa.mk _ _ (s2) ?_ | refine aa.mk _ _ (g1) ?_ | refine aa.mk _ _ (g2) ?_ | refine aa.mk _ _ (E) ?_ | refine aa.mk _ _ (A) ?_ | refine aa.mk _ _ (z1) ?_ | refine DsE.mk (kfc (a1, a2) (b3, b4)) rfl ?_ | refine rgE ?_ | refine Cd.mk rfl ?_ | refine Br.t ?_ | refine Br.f ?_ | refine ai.mk _ rfl ?_ | (refine TkE.fL ?_; (conv => whnf); fail_if_success (show ae _ _)) | refine Res.mk ?_ | ((with_reducible refine EqE.idW ?_); refine EqE.mk _ (ak (by omega) (by omega)) ?_) | ((with_reducible refine EqE.idS ?_); (refine EqE.fP ?_; (conv => whnf); fail_if_success (show ae _ _))) | ((with_reducible refine EqE.idL ?_); refine EqE.mk _ rfl ?_) | refine Cd.ol ?_)
  all_goals rfl
 ·obtain ⟨d, hd⟩ := ae5 (axi b0)
  obtain ⟨v1, v2⟩ := a20 (a := a) (b := b) hd
  have z1 : Sim Tryz.prog G0 true 50 [cxD b] (.bool false) := eu (bH.mono (by decide)) (decide_eq_false b0)
  rw [ksome b0] at E
  unfold exR at E
  dsimp only at E
  rw [show ([(a, ag), (b, ag)] ++ [df (a, ag) (ag, b)]).getD (([(a, ag), (b, ag)] ++ [df (a, ag) (ag, b)]).length - 1) (ag, ag) = df (a, ag) (ag, b) from rfl] at E
  have hq : Hr 1000 (df (a, ag) (ag, b)) := ⟨Hc.aw aH (pj 1 (by decide)) (by decide), Hc.aw (pj 1 (by decide)) bH (by decide)⟩
  have L := aco (q := (a, b)) (hq.mono (by decide)) ⟨aH.mono (by decide), bH.mono (by decide)⟩ (v1.alike v2)
  have hab : Hr 9000 ((a, b) : Rq) := ⟨aH.mono (by decide), bH.mono (by decide)⟩
  rcases told with t | ⟨_, r, t, hr, hh⟩
  ·rw [t, show atD (.error 11) = D.tup [rqD zR, .int .i64 11] from rfl, ← n4] at A
   clear tzero ksome knone b0 t v1 v2 hq hab
   generalize df (a, ag) (ag, b) = q at *
   obtain ⟨b1, l1, e1, c1, k1, f1⟩ := ra
   obtain ⟨b2, l2, e2, c2, k2, f2⟩ := rb
   obtain ⟨a1, a2⟩ := a
   obtain ⟨b3, b4⟩ := b
   obtain ⟨⟨_, _⟩, ⟨_, _⟩⟩ := q
   refine an af Tryz.func11 ?_
   repeat' ((conv => whnf); first | with_reducible refine ah.data ?_ | refine aa.mk _ _ (kn) ?_ | refine aa.mk _ _ (s1) ?_ | refine aa.mk _ _ (s2) ?_ | refine aa.mk _ _ (g1) ?_ | refine aa.mk _ _ (g2) ?_ | refine aa.mk _ _ (E) ?_ | refine aa.mk _ _ (A) ?_ | refine aa.mk _ _ (z1) ?_ | refine aa.mk _ _ (L) ?_ | refine DsE.mk (kfc (a1, a2) (b3, b4)) rfl ?_ | refine rgE ?_ | refine Cd.mk rfl ?_ | refine Br.t ?_ | refine Br.f ?_ | refine ai.mk _ rfl ?_ | (refine TkE.fL ?_; (conv => whnf); fail_if_success (show ae _ _)) | refine Res.mk ?_ | ((with_reducible refine EqE.idW ?_); refine EqE.mk _ (ak (by omega) (by omega)) ?_) | ((with_reducible refine EqE.idS ?_); (refine EqE.fP ?_; (conv => whnf); fail_if_success (show ae _ _))) | ((with_reducible refine EqE.idL ?_); refine EqE.mk _ rfl ?_) | refine Cd.ol ?_)
   all_goals rfl
  ·have Y := awn hab hr (v2.a22 (hh d hd))
   rw [t, show atD (.ok ([ptR a, ptR b] ++ [r])) = D.tup [rqD r, .int .i64 0] from rfl, ← n4] at A
   clear tzero ksome knone b0 t v1 v2 hq hab hh hr
   generalize df (a, ag) (ag, b) = q at *
   obtain ⟨b1, l1, e1, c1, k1, f1⟩ := ra
   obtain ⟨b2, l2, e2, c2, k2, f2⟩ := rb
   obtain ⟨a1, a2⟩ := a
   obtain ⟨b3, b4⟩ := b
   obtain ⟨⟨_, _⟩, ⟨_, _⟩⟩ := q
   obtain ⟨⟨_, _⟩, ⟨_, _⟩⟩ := r
   refine an af Tryz.func11 ?_
   repeat' ((conv => whnf); first | with_reducible refine ah.data ?_ | refine aa.mk _ _ (kn) ?_ | refine aa.mk _ _ (s1) ?_ | refine aa.mk _ _ (s2) ?_ | refine aa.mk _ _ (g1) ?_ | refine aa.mk _ _ (g2) ?_ | refine aa.mk _ _ (E) ?_ | refine aa.mk _ _ (A) ?_ | refine aa.mk _ _ (z1) ?_ | refine aa.mk _ _ (L) ?_ | refine aa.mk _ _ (Y) ?_ | refine DsE.mk (kfc (a1, a2) (b3, b4)) rfl ?_ | refine rgE ?_ | refine Cd.mk rfl ?_ | refine Br.t ?_ | refine Br.f ?_ | refine ai.mk _ rfl ?_ | (refine TkE.fL ?_; (conv => whnf); fail_if_success (show ae _ _)) | refine Res.mk ?_ | ((with_reducible refine EqE.idW ?_); refine EqE.mk _ (ak (by omega) (by omega)) ?_) | ((with_reducible refine EqE.idS ?_); (refine EqE.fP ?_; (conv => whnf); fail_if_success (show ae _ _))) | ((with_reducible refine EqE.idL ?_); refine EqE.mk _ rfl ?_) | refine Cd.ol ?_)
   all_goals rfl
theorem agp (ra rb : RC) (n : Int) (h0 : 0 ≤ n) (h1 : n ≤ 255) : Sim Tryz.prog G0 true 11 [.agg ra.cells, .agg rb.cells, .int .u8 n] (.bool true) := a3f ayu ra rb n h0 h1
end Go.Ev.Ar

namespace Go.Ev.Ar
open Go Go.Ev Go.Proofs
def rqc (r s : RC) : D := .agg (r.cells ++ s.cells)
def aos (r s : RC) : Bool := (xa 2 40 r.l r.e && xa 2 40 r.k r.f && xa 2 40 s.l s.e && xa 2 40 s.k s.f) && (fy r.b r.l r.e && fy r.c r.k r.f && fy s.b s.l s.e && fy s.c s.k s.f)
theorem aav {n : Nat} {B : Int} {l : List UInt32} {e : Int} (h : xa n B l e = true) : l.length ≤ n := by
 unfold xa at h
 simp only [Bool.and_eq_true, decide_eq_true_eq] at h; omega
set_option maxHeartbeats 4000000 in
theorem zc (r s : RC) : Sim Tryz.prog G0 true 52 [rqc r s] (.bool (aos r s)) := by
 obtain ⟨b, l, e, c, k, f⟩ := r
 obtain ⟨b', l', e', c', k', f'⟩ := s
 unfold aos
 dsimp only
 have s1 := ou b l e
 have s2 := ou c k f
 have s3 := ou b' l' e'
 have s4 := ou c' k' f'
 cases h1 : xa 2 40 l e
 ·rw [h1] at s1
  refine an af Tryz.func52 ?_
  repeat' ((conv => whnf); first | with_reducible refine ah.data ?_ | refine aa.mk _ _ (s1) ?_ | refine rgE ?_ | refine Cd.mk rfl ?_ | refine Br.f ?_ | (refine TkE.fL ?_; (conv => whnf); fail_if_success (show ae _ _)) | refine Res.mk ?_)
  all_goals rfl
 cases h2 : xa 2 40 k f
 ·rw [h1] at s1
  rw [h2] at s2
  refine an af Tryz.func52 ?_
  repeat' ((conv => whnf); first | with_reducible refine ah.data ?_ | refine aa.mk _ _ (s1) ?_ | refine aa.mk _ _ (s2) ?_ | refine rgE ?_ | refine Cd.mk rfl ?_ | refine Br.t ?_ | refine Br.f ?_ | (refine TkE.fL ?_; (conv => whnf); fail_if_success (show ae _ _)) | refine Res.mk ?_)
  all_goals rfl
 cases h3 : xa 2 40 l' e'
 ·rw [h1] at s1
  rw [h2] at s2
  rw [h3] at s3
  refine an af Tryz.func52 ?_
  repeat' ((conv => whnf); first | with_reducible refine ah.data ?_ | refine aa.mk _ _ (s1) ?_ | refine aa.mk _ _ (s2) ?_ | refine aa.mk _ _ (s3) ?_ | refine rgE ?_ | refine Cd.mk rfl ?_ | refine Br.t ?_ | refine Br.f ?_ | (refine TkE.fL ?_; (conv => whnf); fail_if_success (show ae _ _)) | refine Res.mk ?_)
  all_goals rfl
 cases h4 : xa 2 40 k' f'
 ·rw [h1] at s1
  rw [h2] at s2
  rw [h3] at s3
  rw [h4] at s4
  refine an af Tryz.func52 ?_
  repeat' ((conv => whnf); first | with_reducible refine ah.data ?_ | refine aa.mk _ _ (s1) ?_ | refine aa.mk _ _ (s2) ?_ | refine aa.mk _ _ (s3) ?_ | refine aa.mk _ _ (s4) ?_ | refine rgE ?_ | refine Cd.mk rfl ?_ | refine Br.t ?_ | refine Br.f ?_ | (refine TkE.fL ?_; (conv => whnf); fail_if_success (show ae _ _)) | refine Res.mk ?_)
  all_goals rfl
 rw [h1] at s1
 rw [h2] at s2
 rw [h3] at s3
 rw [h4] at s4
 have s5 := yw b l e (Nat.le_trans (aav h1) (by decide))
 have s6 := yw c k f (Nat.le_trans (aav h2) (by decide))
 have s7 := yw b' l' e' (Nat.le_trans (aav h3) (by decide))
 have s8 := yw c' k' f' (Nat.le_trans (aav h4) (by decide))
 clear h1 h2 h3 h4
 generalize fy b l e = t1 at *
 generalize fy c k f = t2 at *
 generalize fy b' l' e' = t3 at *
 generalize fy c' k' f' = t4 at *
 refine an af Tryz.func52 ?_
 repeat' ((conv => whnf); first | with_reducible refine ah.data ?_ | refine aa.mk _ _ (s1) ?_ | refine aa.mk _ _ (s2) ?_ | refine aa.mk _ _ (s3) ?_ | refine aa.mk _ _ (s4) ?_ | refine aa.mk _ _ (s5) ?_ | refine aa.mk _ _ (s6) ?_ | refine aa.mk _ _ (s7) ?_ | refine aa.mk _ _ (s8) ?_ | refine rgE ?_ | refine Cd.mk rfl ?_ | refine Br.t ?_ | refine Br.f ?_ | refine Br.mk (fun _ => ?_) (fun _ => ?_) | (refine TkE.fL ?_; (conv => whnf); fail_if_success (show ae _ _)) | refine Res.mk ?_)
 all_goals
  show D.bool _ = D.bool _
  refine congrArg D.bool ?_
  clear s1 s2 s3 s4 s5 s6 s7 s8
  revert t1 t2 t3 t4
  intros
  simp_all
def trB (xs : List Nd) : Bool := xs.any fun x => decide (8 ≤ x.k)
theorem aid (xs : List Nd) (hn : xs.length < 2^62) : Sim Tryz.prog G0 true 54 [nsl xs] (.bool (trB xs)) := by
 refine an af Tryz.func54 ?_
 repeat' ((conv => whnf); first | refine rgE ?_)
 refine ⟨[], [0, 3], [], fun m ys h => ∃ (i : Nat), m = xs.length - i ∧ i ≤ xs.length ∧ (∀ j, j < i → ¬ 8 ≤ (xs.getD j Nd.nil).k) ∧ ys = [.d (nsl xs), .d (.int .i64 i)] ∧ h = [],
  ⟨_, _, _, ⟨.inl rfl, rfl, rfl, by first | rfl | (repeat first | exact all_nil _ | refine bn _ _ _ _ _ ?_)⟩, 0, rfl, by omega, fun j hj => absurd hj (by omega), rfl, rfl⟩, ?_⟩
 rintro m ys h ⟨i, rfl, hi, hall, rfl, rfl⟩
 by_cases hlt : i < xs.length
 ·have T1 : (List.drop 0 (List.drop ((i : Int).toNat * 10) (xs.flatMap Nd.cells)))[0]? = some (.int .i64 (xs.getD i Nd.nil).k) := by
   have k := di xs i hlt
   have e : ((List.take 10 (List.drop 0 (List.drop ((i : Int).toNat * 10) (xs.flatMap Nd.cells)))))[0]? = (xs.getD i Nd.nil).cells[0]? := by rw [k]
   rw [List.getElem?_take, if_pos (by decide)] at e
   exact e
  by_cases hk : 8 ≤ (xs.getD i Nd.nil).k
  ·have yes : trB xs = true := by
    unfold trB
    rw [List.any_eq_true]
    exact ⟨xs.getD i Nd.nil, by simp [hlt], decide_eq_true hk⟩
   rw [yes]
   generalize (xs.getD i Nd.nil).k = k at *
   repeat' ((conv => whnf); first | with_reducible refine Br.bt fun _ => ?_ | refine Cd.mk (bj xs _ (by omega)) ?_ | refine ai.mk _ T1 ?_ | refine rgE ?_ | refine Cd.mk rfl ?_ | refine Res.mk ?_)
   rfl
  ·generalize hke : (xs.getD i Nd.nil).k = k at *
   repeat' ((conv => whnf); first | with_reducible refine Br.bt fun _ => ?_ | with_reducible refine Br.bf fun _ => ?_ | refine Cd.mk (bj xs _ (by omega)) ?_ | refine ai.mk _ T1 ?_ | refine rgE ?_ | refine Cd.mk rfl ?_ | refine ao.cu _ _ ?_ | ((with_reducible refine EqE.idW ?_); with_reducible refine EqE.mk _ (a5 _ (by omega)) ?_))
   exact ⟨_, ⟨i + 1, rfl, by omega, fun j hj => by
    rcases Nat.lt_succ_iff_lt_or_eq.1 hj with g | rfl
    ·exact hall j g
    ·rw [hke]; exact hk, rfl, rfl⟩, by omega⟩
 ·repeat' ((conv => whnf); first | with_reducible refine Br.bf fun _ => ?_ | refine rgE ?_ | refine Cd.mk rfl ?_ | refine Res.mk ?_)
  show D.bool _ = D.bool _
  refine congrArg D.bool ?_
  unfold trB
  rw [List.any_eq_false]
  intro x hx
  obtain ⟨j, hj, rfl⟩ := List.mem_iff_getElem.1 hx
  have := hall j (by omega)
  rw [List.getD_eq_getElem?_getD, List.getElem?_eq_getElem hj] at this
  simpa using this
abbrev VZ (xs : List Nd) (r s rz : RC) (p : Int) : Prop := Sim Tryz.prog G0 true 9 [nsl xs, rqc r s, .agg rz.cells, .int .i64 p] (.bool true)
theorem aku {xs : List Nd} (h : ns xs = true) : xs.length ≤ 45 := by
 unfold ns at h
 simp only [Bool.and_eq_true, decide_eq_true_eq] at h; exact h.2
theorem akt {xs : List Nd} (h : ns xs = true) : ∀ x ∈ xs, x.r.few 2 40 = true := by
 unfold ns at h
 simp only [Bool.and_eq_true, List.all_eq_true] at h; exact h.1
theorem auf {xs : List Nd} (h : ns xs = true) : ∀ x ∈ xs, x.r.l.length ≤ 2 ∧ x.r.k.length ≤ 2 := fun x hx => by
 have := RC.u6.1 (akt h x hx); omega
set_option maxRecDepth 10000 in
set_option maxHeartbeats 8000000 in
theorem acz (kn : KN) (xs : List Nd) (r s rz : RC) (p : Int) (hn : xs.length ≤ 9223372036854775807) (h : ns xs = false ∨ aos r s = false ∨ rz.few 2 40 = false ∨ adr xs = true ∨ gu xs = false ∨ trB xs = true) : VZ xs r s rz p := by
 have s1 := u7 xs hn
 have s2 := zc r s
 have s3 := fo rz
 cases h1 : ns xs
 ·rw [h1] at s1
  obtain ⟨bz, lz, ez, cz, kz, fz⟩ := rz
  obtain ⟨b, l, e, c, k, f⟩ := r
  obtain ⟨b', l', e', c', k', f'⟩ := s
  refine an af Tryz.func9 ?_
  repeat' ((conv => whnf); first | with_reducible refine ah.data ?_ | refine aa.mk _ _ (kn) ?_ | refine aa.mk _ _ (s1) ?_ | refine rgE ?_ | refine Cd.mk rfl ?_ | refine Br.t ?_ | refine Br.f ?_ | refine Res.mk ?_)
  all_goals rfl
 have h45 := aku h1
 have hl := auf h1
 have s4 := aai xs h45
 have s5 := yv xs (Nat.lt_of_le_of_lt h45 (by decide)) (fun x hx => by have := hl x hx; omega)
 have s6 := aid xs (Nat.lt_of_le_of_lt h45 (by decide))
 rw [h1] at s1
 cases h2 : aos r s
 ·rw [h2] at s2
  obtain ⟨bz, lz, ez, cz, kz, fz⟩ := rz
  obtain ⟨b, l, e, c, k, f⟩ := r
  obtain ⟨b', l', e', c', k', f'⟩ := s
  refine an af Tryz.func9 ?_
  repeat' ((conv => whnf); first | with_reducible refine ah.data ?_ | refine aa.mk _ _ (kn) ?_ | refine aa.mk _ _ (s1) ?_ | refine aa.mk _ _ (s2) ?_ | refine rgE ?_ | refine Cd.mk rfl ?_ | refine Br.t ?_ | refine Br.f ?_ | (refine TkE.fL ?_; (conv => whnf); fail_if_success (show ae _ _)) | refine Res.mk ?_)
  all_goals rfl
 rw [h2] at s2
 cases h3 : rz.few 2 40
 ·rw [h3] at s3
  obtain ⟨bz, lz, ez, cz, kz, fz⟩ := rz
  obtain ⟨b, l, e, c, k, f⟩ := r
  obtain ⟨b', l', e', c', k', f'⟩ := s
  refine an af Tryz.func9 ?_
  repeat' ((conv => whnf); first | with_reducible refine ah.data ?_ | refine aa.mk _ _ (kn) ?_ | refine aa.mk _ _ (s1) ?_ | refine aa.mk _ _ (s2) ?_ | refine aa.mk _ _ (s3) ?_ | refine rgE ?_ | refine Cd.mk rfl ?_ | refine Br.t ?_ | refine Br.f ?_ | (refine TkE.fL ?_; (conv => whnf); fail_if_success (show ae _ _)) | refine Res.mk ?_)
  all_goals rfl
 rw [h3] at s3
 rcases Bool.eq_false_or_eq_true (adr xs) with h4 | h4
 ·rw [h4] at s4
  obtain ⟨bz, lz, ez, cz, kz, fz⟩ := rz
  obtain ⟨b, l, e, c, k, f⟩ := r
  obtain ⟨b', l', e', c', k', f'⟩ := s
  refine an af Tryz.func9 ?_
  repeat' ((conv => whnf); first | with_reducible refine ah.data ?_ | refine aa.mk _ _ (kn) ?_ | refine aa.mk _ _ (s1) ?_ | refine aa.mk _ _ (s2) ?_ | refine aa.mk _ _ (s3) ?_ | refine aa.mk _ _ (s4) ?_ | refine rgE ?_ | refine Cd.mk rfl ?_ | refine Br.t ?_ | refine Br.f ?_ | (refine TkE.fL ?_; (conv => whnf); fail_if_success (show ae _ _)) | refine Res.mk ?_)
  all_goals rfl
 rw [h4] at s4
 cases h5 : gu xs
 ·rw [h5] at s5
  obtain ⟨bz, lz, ez, cz, kz, fz⟩ := rz
  obtain ⟨b, l, e, c, k, f⟩ := r
  obtain ⟨b', l', e', c', k', f'⟩ := s
  refine an af Tryz.func9 ?_
  repeat' ((conv => whnf); first | with_reducible refine ah.data ?_ | refine aa.mk _ _ (kn) ?_ | refine aa.mk _ _ (s1) ?_ | refine aa.mk _ _ (s2) ?_ | refine aa.mk _ _ (s3) ?_ | refine aa.mk _ _ (s4) ?_ | refine aa.mk _ _ (s5) ?_ | refine rgE ?_ | refine Cd.mk rfl ?_ | refine Br.t ?_ | refine Br.f ?_ | (refine TkE.fL ?_; (conv => whnf); fail_if_success (show ae _ _)) | refine Res.mk ?_)
  all_goals rfl
 rw [h5] at s5
 rcases Bool.eq_false_or_eq_true (trB xs) with h6 | h6
 ·rw [h6] at s6
  obtain ⟨bz, lz, ez, cz, kz, fz⟩ := rz
  obtain ⟨b, l, e, c, k, f⟩ := r
  obtain ⟨b', l', e', c', k', f'⟩ := s
  refine an af Tryz.func9 ?_
  repeat' ((conv => whnf); first | with_reducible refine ah.data ?_ | refine aa.mk _ _ (kn) ?_ | refine aa.mk _ _ (s1) ?_ | refine aa.mk _ _ (s2) ?_ | refine aa.mk _ _ (s3) ?_ | refine aa.mk _ _ (s4) ?_ | refine aa.mk _ _ (s5) ?_ | refine aa.mk _ _ (s6) ?_ | refine rgE ?_ | refine Cd.mk rfl ?_ | refine Br.t ?_ | refine Br.f ?_ | (refine TkE.fL ?_; (conv => whnf); fail_if_success (show ae _ _)) | refine Res.mk ?_)
  all_goals rfl
 ·rw [h1, h2, h3, h4, h5, h6] at h; simp at h
end Go.Ev.Ar

namespace Go.Ev.Ar
open Go Go.Ev Go.Proofs
theorem azw {r s : RC} (h : aos r s = true) : r.few 2 40 = true ∧ s.few 2 40 = true ∧ rqc r s = rqD (r.val, s.val) := by
 unfold aos at h
 simp only [Bool.and_eq_true] at h
 obtain ⟨⟨⟨⟨a1, a2⟩, a3⟩, a4⟩, ⟨⟨c1, c2⟩, c3⟩, c4⟩ := h
 refine ⟨by unfold RC.few; rw [Bool.and_eq_true]; exact ⟨a1, a2⟩, by unfold RC.few; rw [Bool.and_eq_true]; exact ⟨a3, a4⟩, ?_⟩
 obtain ⟨p1, p2, p3, _⟩ := j6 c1
 obtain ⟨q1, q2, q3, _⟩ := j6 c2
 obtain ⟨u1, u2, u3, _⟩ := j6 c3
 obtain ⟨v1, v2, v3, _⟩ := j6 c4
 obtain ⟨b, l, e, c, k, f⟩ := r
 obtain ⟨b', l', e', c', k', f'⟩ := s
 dsimp only at *
 show D.agg [.bool b, sl l, .int .i64 e, .bool c, sl k, .int .i64 f, .bool b', sl l', .int .i64 e', .bool c', sl k', .int .i64 f'] = D.agg [.bool (a7 (aj (dof (zv b l) e))), sl (ofN (aj (dof (zv b l) e)).natAbs), .int .i64 (ar (dof (zv b l) e)), .bool (a7 (aj (dof (zv c k) f))), sl (ofN (aj (dof (zv c k) f)).natAbs), .int .i64 (ar (dof (zv c k) f)), .bool (a7 (aj (dof (zv b' l') e'))), sl (ofN (aj (dof (zv b' l') e')).natAbs), .int .i64 (ar (dof (zv b' l') e')), .bool (a7 (aj (dof (zv c' k') f'))), sl (ofN (aj (dof (zv c' k') f')).natAbs), .int .i64 (ar (dof (zv c' k') f'))]
 rw [p1, p2, p3, q1, q2, q3, u1, u2, u3, v1, v2, v3]
set_option maxRecDepth 10000 in
set_option maxHeartbeats 16000000 in
theorem a3h (kn : KN) (xs : List Nd) (r s rz : RC) (p : Int) (hn : xs.length ≤ 9223372036854775807) : VZ xs r s rz p := by
 cases h1 : ns xs
 ·exact acz kn xs r s rz p hn (.inl h1)
 cases h2 : aos r s
 ·exact acz kn xs r s rz p hn (.inr (.inl h2))
 cases h3 : rz.few 2 40
 ·exact acz kn xs r s rz p hn (.inr (.inr (.inl h3)))
 rcases Bool.eq_false_or_eq_true (adr xs) with h4 | h4
 ·exact acz kn xs r s rz p hn (.inr (.inr (.inr (.inl h4))))
 cases h5 : gu xs
 ·exact acz kn xs r s rz p hn (.inr (.inr (.inr (.inr (.inl h5)))))
 rcases Bool.eq_false_or_eq_true (trB xs) with h6 | h6
 ·exact acz kn xs r s rz p hn (.inr (.inr (.inr (.inr (.inr h6)))))
 have h45 := aku h1
 have hl := auf h1
 have hn' : xs.length < 2^62 := Nat.lt_of_le_of_lt h45 (by decide)
 have s1 := u7 xs hn
 have s2 := zc r s
 have s3 := fo rz
 have s4 := aai xs h45
 have s5 := yv xs hn' (fun x hx => by have := hl x hx; omega)
 have s6 := aid xs hn'
 rw [h1] at s1
 rw [h2] at s2
 rw [h3] at s3
 rw [h4] at s4
 rw [h5] at s5
 rw [h6] at s6
 obtain ⟨f1, f2, hX⟩ := azw h2
 obtain ⟨zR, zF, zH⟩ := dz h3
 obtain ⟨rR, rF, rH⟩ := dz f1
 obtain ⟨sR, sF, sH⟩ := dz f2
 have xn : Nr (r.val, s.val) := ⟨akz f1 rfl, akz f2 rfl⟩
 have xf : RcF (rqc r s) r.val s.val := by
  obtain ⟨b, l, e, c, k, f⟩ := r
  obtain ⟨b', l', e', c', k', f'⟩ := s
  exact .mk rF sF
 have xh : Hr 104 (r.val, s.val) := ⟨rH, sH⟩
 have s7 := awf (z := (r.val, s.val)) xf (xh.mono (by decide)) rfl
 have s8 := ua zF
 have oh : Hr 104 (c9 (r.val, s.val)) := ⟨rH.rof, sH.rof⟩
 obtain ⟨t, ht⟩ : ∃ t, decide (j5 (c9 (r.val, s.val)).1 rz.val.1 ∧ j5 (c9 (r.val, s.val)).2 rz.val.2) = t := ⟨_, rfl⟩
 have s9 := alv (oh.mono (by decide)) (zH.mono (by decide)) ht
 have hall := akt h1
 have hgt : ∀ i, i < xs.length → xs.getD i Nd.nil ∈ xs := fun i hi => by
  rw [List.getD_eq_getElem?_getD, List.getElem?_eq_getElem hi]; exact List.getElem_mem hi
 have hc : ∀ i, i < xs.length → Hc 104 (xs.getD i Nd.nil).r.val := fun i hi => (dz (hall _ (hgt i hi))).2.2
 have hcz : ∀ i, i < xs.length → CxF (.agg (xs.getD i Nd.nil).r.cells) (xs.getD i Nd.nil).r.val := fun i hi => (dz (hall _ (hgt i hi))).2.1
 have hcq : ∀ i, i < xs.length → (xs.getD i Nd.nil).k = 2 → Nq (xs.getD i Nd.nil).r.val.1 ∧ Nq (xs.getD i Nd.nil).r.val.2 := fun i hi _ => akz (hall _ (hgt i hi)) rfl
 have hb : ∀ i, i < xs.length → ik (szL xs i) (xs.getD i Nd.nil) i ≤ 60 := aah.1 h4
 have e2 := agc hn' (fun x h => by have := hl x h; omega) zF hcz zH hc h5 hb
 have k7 : ∀ i, i < xs.length → (xs.getD i Nd.nil).k ≤ 7 := fun i hi => by
  unfold trB at h6
  rw [List.any_eq_false] at h6
  have := h6 _ (hgt i hi)
  simp only [decide_eq_true_eq] at this; omega
 have A := aek (X := (r.val, s.val)) (p := p) hn' (fun x h => by have := hl x h; omega) h5 k7 hcq xn
 cases t
 ·rw [hX] at s2 s7
  unfold VZ
  rw [hX]
  clear A e2 hb hcq hcz hc hgt hall ht oh xf xn hX zR zF rR rF sR sF h5 xh
  generalize c9 (r.val, s.val) = Y at *
  generalize r.val = u at *
  generalize s.val = v at *
  generalize rz.val = w at *
  obtain ⟨bz, lz, ez, cz, kz, fz⟩ := rz
  obtain ⟨_, _⟩ := u
  obtain ⟨_, _⟩ := v
  obtain ⟨_, _⟩ := w
  obtain ⟨⟨_, _⟩, ⟨_, _⟩⟩ := Y
  refine an af Tryz.func9 ?_
  repeat' ((conv => whnf); first | with_reducible refine ah.data ?_ | refine aa.mk _ _ (kn) ?_ | refine aa.mk _ _ (s1) ?_ | refine aa.mk _ _ (s2) ?_ | refine aa.mk _ _ (s3) ?_ | refine aa.mk _ _ (s4) ?_ | refine aa.mk _ _ (s5) ?_ | refine aa.mk _ _ (s6) ?_ | refine aa.mk _ _ (s7) ?_ | refine aa.mk _ _ (s8) ?_ | refine aa.mk _ _ (s9) ?_ | refine rgE ?_ | refine Cd.mk rfl ?_ | refine Br.t ?_ | refine Br.f ?_ | (refine TkE.fL ?_; (conv => whnf); fail_if_success (show ae _ _)) | refine Res.mk ?_)
  all_goals rfl
 ·obtain ⟨g1, g2⟩ := of_decide_eq_true ht
  have hXz : fp (c9 (r.val, s.val)) (tc rz.val) := ⟨⟨ka.2 g1.1, ka.2 g1.2⟩, ka.2 g2.1, ka.2 g2.2⟩
  have H := apg (p := min (max p 2) 200) h5 k7 hXz xs.length (Nat.le_refl _)
  have K' : ∀ c, atL xs (c9 (r.val, s.val)) (min (max p 2) 200) xs.length = .error c → c = 11 ∨ c = 13 := fun c h => akc h
  rw [hX] at s2 s7
  unfold VZ
  rw [hX]
  clear hb hcq hcz hc hgt hall ht oh xf xn hX zR zF rR rF sR sF h5 xh g1 g2 hXz k7
  generalize atL xs (c9 (r.val, s.val)) (min (max p 2) 200) xs.length = o at *
  generalize qk xs rz.val xs.length = ex at *
  generalize c9 (r.val, s.val) = Y at *
  generalize r.val = u at *
  generalize s.val = v at *
  generalize rz.val = w at *
  obtain ⟨bz, lz, ez, cz, kz, fz⟩ := rz
  obtain ⟨_, _⟩ := u
  obtain ⟨_, _⟩ := v
  obtain ⟨_, _⟩ := w
  obtain ⟨⟨_, _⟩, ⟨_, _⟩⟩ := Y
  cases ex with
  | none =>
   cases o with
   | ok zs => obtain ⟨rs, h, _⟩ := H zs rfl; cases h
   | error c =>
    rw [show atD (.error c) = D.tup [rqD Ar.zR, .int .i64 c] from rfl, ← n4] at A
    rcases K' c rfl with rfl | rfl
    ·refine an af Tryz.func9 ?_
     repeat' ((conv => whnf); first | with_reducible refine ah.data ?_ | refine aa.mk _ _ (kn) ?_ | refine aa.mk _ _ (s1) ?_ | refine aa.mk _ _ (s2) ?_ | refine aa.mk _ _ (s3) ?_ | refine aa.mk _ _ (s4) ?_ | refine aa.mk _ _ (s5) ?_ | refine aa.mk _ _ (s6) ?_ | refine aa.mk _ _ (s7) ?_ | refine aa.mk _ _ (s8) ?_ | refine aa.mk _ _ (s9) ?_ | refine aa.mk _ _ (e2) ?_ | refine aa.mk _ _ (A) ?_ | refine rgE ?_ | refine Cd.mk rfl ?_ | refine Br.t ?_ | refine Br.f ?_ | refine ai.mk _ rfl ?_ | (refine TkE.fL ?_; (conv => whnf); fail_if_success (show ae _ _)) | refine Res.mk ?_ | ((with_reducible refine EqE.idS ?_); (refine EqE.fP ?_; (conv => whnf); fail_if_success (show ae _ _))) | refine Cd.ol ?_)
     all_goals rfl
    ·refine an af Tryz.func9 ?_
     repeat' ((conv => whnf); first | with_reducible refine ah.data ?_ | refine aa.mk _ _ (kn) ?_ | refine aa.mk _ _ (s1) ?_ | refine aa.mk _ _ (s2) ?_ | refine aa.mk _ _ (s3) ?_ | refine aa.mk _ _ (s4) ?_ | refine aa.mk _ _ (s5) ?_ | refine aa.mk _ _ (s6) ?_ | refine aa.mk _ _ (s7) ?_ | refine aa.mk _ _ (s8) ?_ | refine aa.mk _ _ (s9) ?_ | refine aa.mk _ _ (e2) ?_ | refine aa.mk _ _ (A) ?_ | refine rgE ?_ | refine Cd.mk rfl ?_ | refine Br.f ?_ | refine ai.mk _ rfl ?_ | (refine TkE.fL ?_; (conv => whnf); fail_if_success (show ae _ _)) | refine Res.mk ?_ | ((with_reducible refine EqE.idS ?_); (refine EqE.fP ?_; (conv => whnf); fail_if_success (show ae _ _))) | refine Cd.ol ?_)
     all_goals rfl
  | some rs =>
   unfold arq at e2
   dsimp only at e2
   clear H K'
   generalize rs.getD (rs.length - 1) (ag, ag) = q at *
   obtain ⟨⟨_, _⟩, ⟨_, _⟩⟩ := q
   cases o with
   | ok zs =>
    unfold atD at A
    dsimp only at A
    generalize zs.getD (zs.length - 1) (ag, ag) = q' at *
    obtain ⟨⟨_, _⟩, ⟨_, _⟩⟩ := q'
    refine an af Tryz.func9 ?_
    repeat' ((conv => whnf); first | with_reducible refine ah.data ?_ | refine aa.mk _ _ (kn) ?_ | refine aa.mk _ _ (s1) ?_ | refine aa.mk _ _ (s2) ?_ | refine aa.mk _ _ (s3) ?_ | refine aa.mk _ _ (s4) ?_ | refine aa.mk _ _ (s5) ?_ | refine aa.mk _ _ (s6) ?_ | refine aa.mk _ _ (s7) ?_ | refine aa.mk _ _ (s8) ?_ | refine aa.mk _ _ (s9) ?_ | refine aa.mk _ _ (e2) ?_ | refine aa.mk _ _ (A) ?_ | refine rgE ?_ | refine Cd.mk rfl ?_ | refine Br.t ?_ | refine Br.f ?_ | refine ai.mk _ rfl ?_ | (refine TkE.fL ?_; (conv => whnf); fail_if_success (show ae _ _)) | refine Res.mk ?_ | ((with_reducible refine EqE.idS ?_); (refine EqE.fP ?_; (conv => whnf); fail_if_success (show ae _ _))) | refine Cd.ol ?_)
    all_goals rfl
   | error c =>
    rw [show atD (.error c) = D.tup [rqD Ar.zR, .int .i64 c] from rfl, ← n4] at A
    refine an af Tryz.func9 ?_
    repeat' ((conv => whnf); first | with_reducible refine ah.data ?_ | refine aa.mk _ _ (kn) ?_ | refine aa.mk _ _ (s1) ?_ | refine aa.mk _ _ (s2) ?_ | refine aa.mk _ _ (s3) ?_ | refine aa.mk _ _ (s4) ?_ | refine aa.mk _ _ (s5) ?_ | refine aa.mk _ _ (s6) ?_ | refine aa.mk _ _ (s7) ?_ | refine aa.mk _ _ (s8) ?_ | refine aa.mk _ _ (s9) ?_ | refine aa.mk _ _ (e2) ?_ | refine aa.mk _ _ (A) ?_ | refine rgE ?_ | refine Cd.mk rfl ?_ | refine Br.t ?_ | refine Br.f ?_ | refine ai.mk _ rfl ?_ | (refine TkE.fL ?_; (conv => whnf); fail_if_success (show ae _ _)) | refine Res.mk ?_ | ((with_reducible refine EqE.idS ?_); (refine EqE.fP ?_; (conv => whnf); fail_if_success (show ae _ _))) | refine Cd.ol ?_)
    all_goals rfl
theorem as4 (xs : List Nd) (r s rz : RC) (p : Int) (hn : xs.length ≤ 9223372036854775807) : VZ xs r s rz p := a3h ayu xs r s rz p hn
end Go.Ev.Ar

namespace Go.Ev.Ar
open Go Go.Ev Go.Proofs
abbrev a19 : Sh := .struct [ajz, ajz]
theorem a1c {ds : List D} (h : a19.has ds) : ∃ (r s : RC), ds = r.cells ++ s.cells := by
 simp only [Sh.has, Sh.hasAll] at h
 obtain ⟨_, _, rfl, h1, _, _, rfl, h2, rfl⟩ := h
 obtain ⟨r, rfl⟩ := ai6 (by simp only [Sh.has, Sh.hasAll]; exact h1)
 obtain ⟨s, rfl⟩ := ai6 (by simp only [Sh.has, Sh.hasAll]; exact h2)
 exact ⟨r, s, by simp⟩
theorem a0z {x : D} (h : ag1 a19 x) : ∃ (r s : RC), x = Ar.rqc r s := by
 obtain ⟨ds, h1, rfl⟩ := h
 obtain ⟨r, s, rfl⟩ := a1c h1
 exact ⟨r, s, rfl⟩
end Go.Ev.Ar
