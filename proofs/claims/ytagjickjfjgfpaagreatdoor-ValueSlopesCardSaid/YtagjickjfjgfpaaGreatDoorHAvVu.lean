/- Contracts of the given functions, on data. Conditions stand in each theorem. -/
import Derived.Test.YtagjickjfjgfpaaGreatDoorHEvR
import Derived.Test.YtagjickjfjgfpaaGreatDoorHAvEu
set_option linter.unusedSimpArgs false
set_option linter.unusedVariables false
namespace Go.Ev.Ar
open Go Go.Ev Go.Proofs
abbrev bH (es : List Nd) : Hp := [(1000000, false, [.own 2000000 0 es.length 10]), (2000000, false, fa Nd.cells es)]
theorem a3l (es : List Nd) (x : Nd) : fa Nd.cells es ++ x.cells.map A.d = fa Nd.cells (es ++ [x]) := by
 unfold fa; rw [List.flatMap_append, List.map_append]; simp
theorem a3n (es : List Nd) : (fa Nd.cells es).length = es.length * 10 := du Nd.len es
theorem ar7 (es : List Nd) (x : Nd) : (es ++ [x]).length = es.length + 1 := by simp
set_option maxHeartbeats 4000000 in
theorem aax (es : List Nd) (x : Nd) (h : es.length < 10000) : ji Tryz.prog G0 166 [.ptr 1000000 0, .d (.agg x.cells)] (bH es) (.d (.int .i64 es.length)) (bH (es ++ [x])) := by
 have a1 := a3l es x
 have a2 := a3n es
 show ji _ _ _ _ _ _ [(1000000, false, [.own 2000000 0 (es ++ [x]).length 10]), (2000000, false, fa Nd.cells (es ++ [x]))]
 rw [ar7]
 obtain ⟨k, a, b, n', ⟨b1, l1, e1, c1, k1, f1⟩⟩ := x
 refine jq af Tryz.func166 ?_
 repeat' ((conv => whnf); first | refine cx.xr (C := ⟨[7], [], [1000000, 2000000], [2000000], [9, 12]⟩) [(7, 0)] rfl rfl (by kernel_rfl) (by first | rfl | (simp only [ka, List.all_cons, List.all_nil, a5, jy, Bool.or_true, Bool.and_true]; first | done | rfl)) ?_ rfl | refine b7.mk (show Dw.mj _ _ _ _ = true by kernel_rfl) ?_ | refine Cd.mk (di rfl) ?_ | refine EqE.mk _ a1 ?_ | refine Cd.mk (show (fa Nd.cells es).length = es.length * 10 from a2) ?_ | refine DsE.mk (Nd.cells ⟨k, a, b, n', ⟨b1, l1, e1, c1, k1, f1⟩⟩) rfl ?_ | refine DsE.mk (es.flatMap Nd.cells) rfl ?_ | refine rgE ?_ | refine Cd.mk rfl ?_ | refine ah.mk _ rfl ?_ | (refine TkE.fL ?_; (conv => whnf); fail_if_success (show ae _ _)) | ((with_reducible refine EqE.idW ?_); refine EqE.mk (es.length : Int) ((aj (by omega) (by omega)).trans (by omega)) ?_) | ((with_reducible refine EqE.idS ?_); (refine EqE.fP ?_; (conv => whnf); fail_if_success (show ae _ _))) | refine Cd.ol ?_ | refine Cd.mk ⟨rfl, rfl⟩ ?_ | refine Cd.os ?_)
 exact fo.own 4 rfl rfl rfl
def cN (n : Int) : Nd := ⟨2, 0, 0, 0, ⟨a7 (ak (dof n 0)), ofN (ak (dof n 0)).natAbs, av (dof n 0), false, [], 0⟩⟩
def adF (es : List Nd) (x : Nd) : List Nd × Int := (es ++ [x], es.length)
def tmF (es : List Nd) (x y : Int) : List Nd × Int := if x = -1 ∨ y = -1 then (es, -1) else adF es ⟨5, x, y, 0, RC.nil⟩
def plF (es : List Nd) (x y k : Int) : List Nd × Int :=
 if y = -1 then (es, x) else if x = -1 ∧ k = 3 then (es, y) else if x = -1 then adF (es ++ [cN 0]) ⟨k, es.length, y, 0, RC.nil⟩ else adF es ⟨k, x, y, 0, RC.nil⟩
abbrev BO (f : FuncId) (es : List Nd) (args : List A) (r : List Nd × Int) : Prop := ji Tryz.prog G0 f (.ptr 1000000 0 :: args) (bH es) (.d (.int .i64 r.2)) (bH r.1)
theorem aej (es : List Nd) (n : Int) (h : es.length < 10000) (hn : -9223372036854775808 ≤ n ∧ n ≤ 9223372036854775807) : BO 163 es [.d (.int .i64 n)] (adF es (cN n)) := by
 have a1 := aax es (cN n) h
 have s1 := tj n hn.1 hn.2
 show ji _ _ _ _ (bH es) (.d (.int .i64 es.length)) (bH (es ++ [cN n]))
 refine jq af Tryz.func163 ?_
 repeat' ((conv => whnf); first | refine ag.own (jl.au (a1) [(1000000, 1000000), (2000000, 2000000)] [] (.d (.int .i64 es.length)) (bH (es ++ [cN n])) [] ?_) | with_reducible refine ag.data ?_ | refine aa.mk _ _ (s1) ?_ | refine rgE ?_ | refine Cd.mk rfl ?_ | refine Cd.ol ?_)
 exact fo.own 4 rfl rfl rfl
theorem mb (es : List Nd) (x y : Int) (h : es.length < 10000) : BO 165 es [.d (.int .i64 x), .d (.int .i64 y)] (tmF es x y) := by
 unfold tmF
 by_cases c : x = -1 ∨ y = -1
 ·rw [if_pos c]
  show ji _ _ _ _ (bH es) (.d (.int .i64 (-1))) (bH es)
  by_cases hx : x = -1
  ·refine jq af Tryz.func165 ?_
   repeat' ((conv => whnf); first | ((with_reducible refine Br.ck ?hpp ?_); case hpp => first | omega | (dsimp only; omega)) | refine rgE ?_ | refine Cd.mk rfl ?_ | refine Br.t ?_)
   exact fo.own 6 rfl rfl rfl
  ·have hy : y = -1 := by omega
   refine jq af Tryz.func165 ?_
   repeat' ((conv => whnf); first | ((with_reducible refine Br.ck ?hpp ?_); case hpp => first | omega | (dsimp only; omega)) | ((with_reducible refine Br.b4 ?hpp ?_); case hpp => first | omega | (dsimp only; omega)) | refine rgE ?_ | refine Cd.mk rfl ?_ | refine Br.f ?_)
   exact fo.own 6 rfl rfl rfl
 ·rw [if_neg c]
  have hx : ¬ x = -1 := fun e => c (.inl e)
  have hy : ¬ y = -1 := fun e => c (.inr e)
  have a1 := aax es ⟨5, x, y, 0, RC.nil⟩ h
  show ji _ _ _ _ (bH es) (.d (.int .i64 es.length)) (bH (es ++ [⟨5, x, y, 0, RC.nil⟩]))
  refine jq af Tryz.func165 ?_
  repeat' ((conv => whnf); first | refine ag.own (jl.au (a1) [(1000000, 1000000), (2000000, 2000000)] [] (.d (.int .i64 es.length)) (bH (es ++ [⟨5, x, y, 0, RC.nil⟩])) [] ?_) | ((with_reducible refine Br.b4 ?hpp ?_); case hpp => first | omega | (dsimp only; omega)) | refine rgE ?_ | refine Cd.mk rfl ?_ | refine Br.f ?_ | refine Cd.ol ?_)
  exact fo.own 6 rfl rfl rfl
theorem aek (es : List Nd) (x y k : Int) (h : es.length < 9000) : BO 164 es [.d (.int .i64 x), .d (.int .i64 y), .d (.int .i64 k)] (plF es x y k) := by
 unfold plF
 by_cases hy : y = -1
 ·rw [if_pos hy]
  show ji _ _ _ _ (bH es) (.d (.int .i64 x)) (bH es)
  refine jq af Tryz.func164 ?_
  repeat' ((conv => whnf); first | ((with_reducible refine Br.ck ?hpp ?_); case hpp => first | omega | (dsimp only; omega)) | refine rgE ?_ | refine Cd.mk rfl ?_)
  exact fo.own 8 rfl rfl rfl
 rw [if_neg hy]
 by_cases hx : x = -1
 ·by_cases hk : k = 3
  ·rw [if_pos ⟨hx, hk⟩]
   show ji _ _ _ _ (bH es) (.d (.int .i64 y)) (bH es)
   refine jq af Tryz.func164 ?_
   repeat' ((conv => whnf); first | ((with_reducible refine Br.ck ?hpp ?_); case hpp => first | omega | (dsimp only; omega)) | ((with_reducible refine Br.b4 ?hpp ?_); case hpp => first | omega | (dsimp only; omega)) | refine rgE ?_ | refine Cd.mk rfl ?_ | refine Br.t ?_)
   exact fo.own 8 rfl rfl rfl
  ·rw [if_neg (fun g => hk g.2), if_pos hx]
   have a0 := aej es 0 (by omega) (by decide)
   have a1 := aax (es ++ [cN 0]) ⟨k, es.length, y, 0, RC.nil⟩ (by rw [ar7]; omega)
   show ji _ _ _ _ (bH es) (.d (.int .i64 (es ++ [cN 0]).length)) (bH ((es ++ [cN 0]) ++ [⟨k, es.length, y, 0, RC.nil⟩]))
   refine jq af Tryz.func164 ?_
   repeat' ((conv => whnf); first | refine ag.own (jl.au (a0) [(1000000, 1000000), (2000000, 2000000)] [] (.d (.int .i64 es.length)) (bH (es ++ [cN 0])) [] ?_) | refine ag.own (jl.au (a1) [(1000000, 1000000), (2000000, 2000000)] [] (.d (.int .i64 (es ++ [cN 0]).length)) (bH ((es ++ [cN 0]) ++ [⟨k, es.length, y, 0, RC.nil⟩])) [] ?_) | ((with_reducible refine Br.ck ?hpp ?_); case hpp => first | omega | (dsimp only; omega)) | ((with_reducible refine Br.b4 ?hpp ?_); case hpp => first | omega | (dsimp only; omega)) | refine rgE ?_ | refine Cd.mk rfl ?_ | refine Br.t ?_ | refine Cd.ol ?_)
   exact fo.own 8 rfl rfl rfl
 ·rw [if_neg (fun g => hx g.1), if_neg hx]
  have a1 := aax es ⟨k, x, y, 0, RC.nil⟩ (by omega)
  show ji _ _ _ _ (bH es) (.d (.int .i64 es.length)) (bH (es ++ [⟨k, x, y, 0, RC.nil⟩]))
  refine jq af Tryz.func164 ?_
  repeat' ((conv => whnf); first | refine ag.own (jl.au (a1) [(1000000, 1000000), (2000000, 2000000)] [] (.d (.int .i64 es.length)) (bH (es ++ [⟨k, x, y, 0, RC.nil⟩])) [] ?_) | ((with_reducible refine Br.b4 ?hpp ?_); case hpp => first | omega | (dsimp only; omega)) | refine rgE ?_ | refine Cd.mk rfl ?_ | refine Br.f ?_ | refine Cd.ol ?_)
  exact fo.own 8 rfl rfl rfl
end Go.Ev.Ar

namespace Go.Ev.Ar
open Go Go.Ev Go.Proofs
theorem a5 {α : Type} (mv : List Nat) (f : α → List D) (xs : List α) : A.kls mv (fa f xs) = fa f xs := aes mv _
theorem bx (es : List Nd) (ds : List Int) : ∀ x ∈ [(1000000, false, [A.own 2000000 0 es.length 10]), (2000000, false, fa Nd.cells es), (1000001, false, fa iC ds)], A.a6 [1000000, 2000000, 1000001] x.2.2 = true := by
 intro x hx
 simp only [List.mem_cons, List.not_mem_nil, or_false] at hx
 rcases hx with rfl | rfl | rfl
 ·rfl
 ·exact A.dd _ _
 ·exact A.dd _ _
theorem v7 (es : List Nd) (x y : Int) : (tmF es x y).1.length ≤ es.length + 1 ∧ es.length ≤ (tmF es x y).1.length := by
 unfold tmF adF; split <;> simp
theorem a1e (es : List Nd) (x y k : Int) : (plF es x y k).1.length ≤ es.length + 2 ∧ es.length ≤ (plF es x y k).1.length := by
  unfold plF adF; split; · simp
  split; · simp
  split <;> simp
theorem aat (es : List Nd) (x : Nd) : (adF es x).1.length = es.length + 1 := by unfold adF; simp
def slF (es : List Nd) (at_ : Int) (n : Nd) (ds : List Int) : List Nd × Int :=
 let dA := ds.getD n.a.toNat 0
 let dB := ds.getD n.b.toNat 0
 if n.k = 1 then adF es (cN 1)
 else if n.k = 3 ∨ n.k = 4 then plF es dA dB n.k
 else if n.k = 5 then
  let t1 := tmF es dA n.b
  let t2 := tmF t1.1 n.a dB
  plF t2.1 t1.2 t2.2 3
 else if n.k = 6 then
  let t1 := tmF es dA n.b
  let t2 := tmF t1.1 n.a dB
  let u := plF t2.1 t1.2 t2.2 4
  if u.2 = -1 then (u.1, -1) else
   let t3 := tmF u.1 n.b n.b
   adF t3.1 ⟨6, u.2, t3.2, 0, RC.nil⟩
 else if dA = -1 then (es, -1)
 else if n.k = 7 then
  if n.n = 0 then (es, -1) else
   let l := adF es ⟨7, n.a, 0, n.n - 1, RC.nil⟩
   let c := adF l.1 (cN n.n)
   let t := tmF c.1 c.2 l.2
   tmF t.1 t.2 dA
 else if n.k = 8 then tmF es at_ dA
 else if n.k = 9 then
  let c := adF es ⟨10, n.a, 0, 0, RC.nil⟩
  tmF c.1 c.2 dA
 else
  let s := adF es ⟨9, n.a, 0, 0, RC.nil⟩
  let c := adF s.1 (cN (-1))
  let t := tmF c.1 c.2 s.2
  tmF t.1 t.2 dA
abbrev bS (es : List Nd) (ds : List Int) : Hp := [(1000000, false, [.own 2000000 0 es.length 10]), (2000000, false, fa Nd.cells es), (1000001, false, fa iC ds)]
abbrev BS (es : List Nd) (ds : List Int) (i : Int) (r : List Nd × Int) : Prop := ji Tryz.prog G0 108 [.ptr 1000000 0, .d (.int .i64 i), .own 1000001 0 ds.length 1] (bS es ds) (.d (.int .i64 r.2)) (bS r.1 ds)
theorem ua {ss : List Int} {a : Int} {d : Int} (h0 : 0 ≤ a) (h1 : a < ss.length) (h : ss.getD a.toNat 0 = d) : (fa iC ss)[0 + a.toNat * 1]? = some (.d (.int .i64 d)) := by
 rw [Nat.zero_add, Nat.mul_one, arn _ _ (by omega), h]
abbrev aq8 (es : List Nd) (x : Nd) (h : es.length < 10000) : BO 166 es [.d (.agg x.cells)] (adF es x) := aax es x h
set_option maxRecDepth 10000 in
set_option maxHeartbeats 16000000 in
theorem avv {es : List Nd} {ds : List Int} {i : Nat} {n : Nd} (he : es.length < 3000) (hi : i < es.length) (hx : es.getD i Nd.nil = n) (hkk : n.k = 1) (hk : 1 ≤ n.k ∧ n.k ≤ 10 ∧ n.k ≠ 2) (ha : 3 ≤ n.k → 0 ≤ n.a ∧ n.a < ds.length) (hb : 3 ≤ n.k → n.k ≤ 6 → 0 ≤ n.b ∧ n.b < ds.length) (hn : n.k = 7 → 0 ≤ n.n ∧ n.n ≤ 64) : BS es ds i (slF es i n ds) := by
 have T1 : ((fa Nd.cells es).drop (0 + (i : Int).toNat * 10)).take 10 = n.cells.map A.d := by rw [← hx]; exact tv Nd.len Nd.nil es i hi
 obtain ⟨k, a, b, n', ⟨b1, l1, e1, c1, k1, f1⟩⟩ := n
 dsimp only at hk ha hb hn
 dsimp only at hkk
 subst hkk
 clear hx
 have e0 : slF es i ⟨1, a, b, n', ⟨b1, l1, e1, c1, k1, f1⟩⟩ ds = adF es (cN 1) := by
  unfold slF; dsimp only; rw [if_pos rfl]
 rw [e0]
 have s1 := aej es 1 (by omega) (by decide)
 obtain ⟨r1, hr1⟩ : ∃ r, adF es (cN 1) = r := ⟨_, rfl⟩
 rw [hr1] at s1 ⊢
 clear hr1 e0
 refine fy af Tryz.func108 rfl (by kernel_rfl) ⟨Nat.le_of_ble_eq_true rfl, Nat.le_of_ble_eq_true rfl⟩ rfl (bx _ _) rfl (bx _ _) ?_
 repeat' ((conv => whnf); first | refine ag.own (jl.au (s1) [(1000000, 1000000), (2000000, 2000000)] [] (.d (.int .i64 r1.2)) (bH r1.1) [] ?_) | ((with_reducible show TkE (fa Nd.cells es) _ _ _); refine TkE.mk _ T1 rfl ?_) | refine rgE ?_ | refine Cd.mk rfl ?_ | refine Br.t ?_ | refine ah.mk _ rfl ?_ | ((with_reducible refine EqE.idS ?_); (refine EqE.fP ?_; (conv => whnf); fail_if_success (show ae _ _))) | refine Cd.ol ?_ | refine Cd.os ?_)
 exact fo.own 6 rfl rfl (by first | rfl | (show [_, _, (1000001, false, A.kls _ (A.kls _ (fa iC ds)))] = _; rw [a5, a5]; first | done | rfl) | (show [_, _, (1000001, false, A.kls _ (fa iC ds))] = _; rw [a5]; first | done | rfl))
set_option maxRecDepth 10000 in
set_option maxHeartbeats 16000000 in
theorem avw {es : List Nd} {ds : List Int} {i : Nat} {n : Nd} (he : es.length < 3000) (hi : i < es.length) (hx : es.getD i Nd.nil = n) (hkk : n.k = 3) (hk : 1 ≤ n.k ∧ n.k ≤ 10 ∧ n.k ≠ 2) (ha : 3 ≤ n.k → 0 ≤ n.a ∧ n.a < ds.length) (hb : 3 ≤ n.k → n.k ≤ 6 → 0 ≤ n.b ∧ n.b < ds.length) (hn : n.k = 7 → 0 ≤ n.n ∧ n.n ≤ 64) : BS es ds i (slF es i n ds) := by
 have T1 : ((fa Nd.cells es).drop (0 + (i : Int).toNat * 10)).take 10 = n.cells.map A.d := by rw [← hx]; exact tv Nd.len Nd.nil es i hi
 obtain ⟨k, a, b, n', ⟨b1, l1, e1, c1, k1, f1⟩⟩ := n
 dsimp only at hk ha hb hn
 dsimp only at hkk
 subst hkk
 clear hx
 obtain ⟨a0, a1⟩ := ha (by decide)
 obtain ⟨dA, hA⟩ : ∃ d, ds.getD a.toNat 0 = d := ⟨_, rfl⟩
 have LA := ua a0 a1 hA
 obtain ⟨b0, b1'⟩ := hb (by decide) (by decide)
 obtain ⟨dB, hB⟩ : ∃ d, ds.getD b.toNat 0 = d := ⟨_, rfl⟩
 have LB := ua b0 b1' hB
 have e0 : slF es i ⟨3, a, b, n', ⟨b1, l1, e1, c1, k1, f1⟩⟩ ds = plF es dA dB 3 := by
  unfold slF; dsimp only; rw [hA, hB, if_neg (show ¬ (3 : Int) = 1 by decide), if_pos (show (3 : Int) = 3 ∨ (3 : Int) = 4 by decide)]
 rw [e0]
 have s1 := aek es dA dB 3 (by omega)
 obtain ⟨r1, hr1⟩ : ∃ r, plF es dA dB 3 = r := ⟨_, rfl⟩
 rw [hr1] at s1 ⊢
 clear hr1 e0
 refine fy af Tryz.func108 rfl (by kernel_rfl) ⟨Nat.le_of_ble_eq_true rfl, Nat.le_of_ble_eq_true rfl⟩ rfl (bx _ _) rfl (bx _ _) ?_
 repeat' ((conv => whnf); first | refine cx.xr (C := ⟨[13], [], [1000000, 2000000], [2000000], []⟩) [(13, 164)] rfl rfl (by kernel_rfl) (by first | rfl | (simp only [ka, List.all_cons, List.all_nil, a5, jy, Bool.or_true, Bool.and_true]; first | done | rfl)) ?_ rfl | refine b7.mk (show Dw.mj _ _ _ _ = true by kernel_rfl) ?_ | ((with_reducible refine Br.b4 ?hpp ?_); case hpp => first | omega | (dsimp only; omega)) | ((with_reducible show TkE (fa Nd.cells es) _ _ _); refine TkE.mk _ T1 rfl ?_) | ((with_reducible show ah (fa iC ds) (0 + Int.toNat a * _) _); refine ah.mk _ LA ?_) | ((with_reducible show ah (fa iC ds) (0 + Int.toNat b * _) _); refine ah.mk _ LB ?_) | refine eg.au (s1) [(1000000, 1000000), (2000000, 2000000)] [] (.d (.int .i64 r1.2)) (bH r1.1) ?_ | refine rgE ?_ | refine Cd.mk rfl ?_ | refine Br.t ?_ | refine ah.mk _ rfl ?_ | ((with_reducible refine EqE.idS ?_); (refine EqE.fP ?_; (conv => whnf); fail_if_success (show ae _ _))) | refine Cd.ol ?_ | refine Cd.os ?_)
 exact fo.own 6 rfl rfl (by first | rfl | (show [_, _, (1000001, false, A.kls _ (A.kls _ (fa iC ds)))] = _; rw [a5, a5]; first | done | rfl) | (show [_, _, (1000001, false, A.kls _ (fa iC ds))] = _; rw [a5]; first | done | rfl))
set_option maxRecDepth 10000 in
set_option maxHeartbeats 16000000 in
theorem avx {es : List Nd} {ds : List Int} {i : Nat} {n : Nd} (he : es.length < 3000) (hi : i < es.length) (hx : es.getD i Nd.nil = n) (hkk : n.k = 4) (hk : 1 ≤ n.k ∧ n.k ≤ 10 ∧ n.k ≠ 2) (ha : 3 ≤ n.k → 0 ≤ n.a ∧ n.a < ds.length) (hb : 3 ≤ n.k → n.k ≤ 6 → 0 ≤ n.b ∧ n.b < ds.length) (hn : n.k = 7 → 0 ≤ n.n ∧ n.n ≤ 64) : BS es ds i (slF es i n ds) := by
 have T1 : ((fa Nd.cells es).drop (0 + (i : Int).toNat * 10)).take 10 = n.cells.map A.d := by rw [← hx]; exact tv Nd.len Nd.nil es i hi
 obtain ⟨k, a, b, n', ⟨b1, l1, e1, c1, k1, f1⟩⟩ := n
 dsimp only at hk ha hb hn
 dsimp only at hkk
 subst hkk
 clear hx
 obtain ⟨a0, a1⟩ := ha (by decide)
 obtain ⟨dA, hA⟩ : ∃ d, ds.getD a.toNat 0 = d := ⟨_, rfl⟩
 have LA := ua a0 a1 hA
 obtain ⟨b0, b1'⟩ := hb (by decide) (by decide)
 obtain ⟨dB, hB⟩ : ∃ d, ds.getD b.toNat 0 = d := ⟨_, rfl⟩
 have LB := ua b0 b1' hB
 have e0 : slF es i ⟨4, a, b, n', ⟨b1, l1, e1, c1, k1, f1⟩⟩ ds = plF es dA dB 4 := by
  unfold slF; dsimp only; rw [hA, hB, if_neg (show ¬ (4 : Int) = 1 by decide), if_pos (show (4 : Int) = 3 ∨ (4 : Int) = 4 by decide)]
 rw [e0]
 have s1 := aek es dA dB 4 (by omega)
 obtain ⟨r1, hr1⟩ : ∃ r, plF es dA dB 4 = r := ⟨_, rfl⟩
 rw [hr1] at s1 ⊢
 clear hr1 e0
 refine fy af Tryz.func108 rfl (by kernel_rfl) ⟨Nat.le_of_ble_eq_true rfl, Nat.le_of_ble_eq_true rfl⟩ rfl (bx _ _) rfl (bx _ _) ?_
 repeat' ((conv => whnf); first | refine cx.xr (C := ⟨[13], [], [1000000, 2000000], [2000000], []⟩) [(13, 164)] rfl rfl (by kernel_rfl) (by first | rfl | (simp only [ka, List.all_cons, List.all_nil, a5, jy, Bool.or_true, Bool.and_true]; first | done | rfl)) ?_ rfl | refine b7.mk (show Dw.mj _ _ _ _ = true by kernel_rfl) ?_ | ((with_reducible refine Br.b4 ?hpp ?_); case hpp => first | omega | (dsimp only; omega)) | ((with_reducible show TkE (fa Nd.cells es) _ _ _); refine TkE.mk _ T1 rfl ?_) | ((with_reducible show ah (fa iC ds) (0 + Int.toNat a * _) _); refine ah.mk _ LA ?_) | ((with_reducible show ah (fa iC ds) (0 + Int.toNat b * _) _); refine ah.mk _ LB ?_) | refine eg.au (s1) [(1000000, 1000000), (2000000, 2000000)] [] (.d (.int .i64 r1.2)) (bH r1.1) ?_ | refine rgE ?_ | refine Cd.mk rfl ?_ | refine Br.t ?_ | refine ah.mk _ rfl ?_ | ((with_reducible refine EqE.idS ?_); (refine EqE.fP ?_; (conv => whnf); fail_if_success (show ae _ _))) | refine Cd.ol ?_ | refine Cd.os ?_)
 exact fo.own 6 rfl rfl (by first | rfl | (show [_, _, (1000001, false, A.kls _ (A.kls _ (fa iC ds)))] = _; rw [a5, a5]; first | done | rfl) | (show [_, _, (1000001, false, A.kls _ (fa iC ds))] = _; rw [a5]; first | done | rfl))
end Go.Ev.Ar

namespace Go.Ev.Ar
open Go Go.Ev Go.Proofs
set_option maxRecDepth 10000 in
set_option maxHeartbeats 16000000 in
theorem avy {es : List Nd} {ds : List Int} {i : Nat} {n : Nd} (he : es.length < 3000) (hi : i < es.length) (hx : es.getD i Nd.nil = n) (hkk : n.k = 5) (hk : 1 ≤ n.k ∧ n.k ≤ 10 ∧ n.k ≠ 2) (ha : 3 ≤ n.k → 0 ≤ n.a ∧ n.a < ds.length) (hb : 3 ≤ n.k → n.k ≤ 6 → 0 ≤ n.b ∧ n.b < ds.length) (hn : n.k = 7 → 0 ≤ n.n ∧ n.n ≤ 64) : BS es ds i (slF es i n ds) := by
 have T1 : ((fa Nd.cells es).drop (0 + (i : Int).toNat * 10)).take 10 = n.cells.map A.d := by rw [← hx]; exact tv Nd.len Nd.nil es i hi
 obtain ⟨k, a, b, n', ⟨b1, l1, e1, c1, k1, f1⟩⟩ := n
 dsimp only at hk ha hb hn
 dsimp only at hkk
 subst hkk
 clear hx
 obtain ⟨a0, a1⟩ := ha (by decide)
 obtain ⟨dA, hA⟩ : ∃ d, ds.getD a.toNat 0 = d := ⟨_, rfl⟩
 have LA := ua a0 a1 hA
 obtain ⟨b0, b1'⟩ := hb (by decide) (by decide)
 obtain ⟨dB, hB⟩ : ∃ d, ds.getD b.toNat 0 = d := ⟨_, rfl⟩
 have LB := ua b0 b1' hB
 have w1 := v7 es dA b
 have s1 := mb es dA b (by omega)
 obtain ⟨r1, hr1⟩ : ∃ r, tmF es dA b = r := ⟨_, rfl⟩
 rw [hr1] at s1 w1
 have w2 := v7 r1.1 a dB
 have s2 := mb r1.1 a dB (by omega)
 obtain ⟨r2, hr2⟩ : ∃ r, tmF r1.1 a dB = r := ⟨_, rfl⟩
 rw [hr2] at s2 w2
 have s3 := aek r2.1 r1.2 r2.2 3 (by omega)
 obtain ⟨r3, hr3⟩ : ∃ r, plF r2.1 r1.2 r2.2 3 = r := ⟨_, rfl⟩
 rw [hr3] at s3
 have e0 : slF es i ⟨5, a, b, n', ⟨b1, l1, e1, c1, k1, f1⟩⟩ ds = r3 := by
  unfold slF; dsimp only; rw [hA, hB, if_neg (show ¬ (5 : Int) = 1 by decide), if_neg (show ¬ ((5 : Int) = 3 ∨ (5 : Int) = 4) by decide), if_pos rfl, hr1, hr2, hr3]
 rw [e0]
 clear hr1 hr2 hr3 e0
 refine fy af Tryz.func108 rfl (by kernel_rfl) ⟨Nat.le_of_ble_eq_true rfl, Nat.le_of_ble_eq_true rfl⟩ rfl (bx _ _) rfl (bx _ _) ?_
 repeat' ((conv => whnf); first | refine cx.xr (C := ⟨[9, 18, 19], [11, 12, 14, 15, 16, 17], [1000000, 2000000], [2000000], []⟩) [(9, 165), (18, 165), (19, 164)] rfl rfl (by kernel_rfl) (by first | rfl | (simp only [ka, List.all_cons, List.all_nil, a5, jy, Bool.or_true, Bool.and_true]; first | done | rfl)) ?_ rfl | refine b7.mk (show Dw.mj _ _ _ _ = true by kernel_rfl) ?_ | ((with_reducible refine Br.b4 ?hpp ?_); case hpp => first | omega | (dsimp only; omega)) | ((with_reducible show TkE (fa Nd.cells es) _ _ _); refine TkE.mk _ T1 rfl ?_) | ((with_reducible show ah (fa iC ds) (0 + Int.toNat a * _) _); refine ah.mk _ LA ?_) | ((with_reducible show ah (fa iC ds) (0 + Int.toNat b * _) _); refine ah.mk _ LB ?_) | refine eg.au (s1) [(1000000, 1000000), (2000000, 2000000)] [] (.d (.int .i64 r1.2)) (bH r1.1) ?_ | refine eg.au (s2) [(1000000, 1000000), (2000000, 2000000)] [] (.d (.int .i64 r2.2)) (bH r2.1) ?_ | refine eg.au (s3) [(1000000, 1000000), (2000000, 2000000)] [] (.d (.int .i64 r3.2)) (bH r3.1) ?_ | refine rgE ?_ | refine Cd.mk rfl ?_ | refine Br.t ?_ | refine ah.mk _ rfl ?_ | ((with_reducible refine EqE.idS ?_); (refine EqE.fP ?_; (conv => whnf); fail_if_success (show ae _ _))) | refine Cd.ol ?_ | refine Cd.os ?_)
 exact fo.own 6 rfl rfl (by first | rfl | (show [_, _, (1000001, false, A.kls _ (A.kls _ (fa iC ds)))] = _; rw [a5, a5]; first | done | rfl) | (show [_, _, (1000001, false, A.kls _ (fa iC ds))] = _; rw [a5]; first | done | rfl))
end Go.Ev.Ar

namespace Go.Ev.Ar
open Go Go.Ev Go.Proofs
set_option maxRecDepth 10000 in
set_option maxHeartbeats 16000000 in
theorem avz {es : List Nd} {ds : List Int} {i : Nat} {n : Nd} (he : es.length < 3000) (hi : i < es.length) (hx : es.getD i Nd.nil = n) (hkk : n.k = 6) (hk : 1 ≤ n.k ∧ n.k ≤ 10 ∧ n.k ≠ 2) (ha : 3 ≤ n.k → 0 ≤ n.a ∧ n.a < ds.length) (hb : 3 ≤ n.k → n.k ≤ 6 → 0 ≤ n.b ∧ n.b < ds.length) (hn : n.k = 7 → 0 ≤ n.n ∧ n.n ≤ 64) : BS es ds i (slF es i n ds) := by
 have T1 : ((fa Nd.cells es).drop (0 + (i : Int).toNat * 10)).take 10 = n.cells.map A.d := by rw [← hx]; exact tv Nd.len Nd.nil es i hi
 obtain ⟨k, a, b, n', ⟨b1, l1, e1, c1, k1, f1⟩⟩ := n
 dsimp only at hk ha hb hn
 dsimp only at hkk
 subst hkk
 clear hx
 obtain ⟨a0, a1⟩ := ha (by decide)
 obtain ⟨dA, hA⟩ : ∃ d, ds.getD a.toNat 0 = d := ⟨_, rfl⟩
 have LA := ua a0 a1 hA
 obtain ⟨b0, b1'⟩ := hb (by decide) (by decide)
 obtain ⟨dB, hB⟩ : ∃ d, ds.getD b.toNat 0 = d := ⟨_, rfl⟩
 have LB := ua b0 b1' hB
 have w1 := v7 es dA b
 have s1 := mb es dA b (by omega)
 obtain ⟨r1, hr1⟩ : ∃ r, tmF es dA b = r := ⟨_, rfl⟩
 rw [hr1] at s1 w1
 have w2 := v7 r1.1 a dB
 have s2 := mb r1.1 a dB (by omega)
 obtain ⟨r2, hr2⟩ : ∃ r, tmF r1.1 a dB = r := ⟨_, rfl⟩
 rw [hr2] at s2 w2
 have w3 := a1e r2.1 r1.2 r2.2 4
 have s3 := aek r2.1 r1.2 r2.2 4 (by omega)
 obtain ⟨r3, hr3⟩ : ∃ r, plF r2.1 r1.2 r2.2 4 = r := ⟨_, rfl⟩
 rw [hr3] at s3 w3
 by_cases z : r3.2 = -1
 ·have e0 : slF es i ⟨6, a, b, n', ⟨b1, l1, e1, c1, k1, f1⟩⟩ ds = (r3.1, -1) := by
   unfold slF; dsimp only; rw [hA, hB, if_neg (show ¬ (6 : Int) = 1 by decide), if_neg (show ¬ ((6 : Int) = 3 ∨ (6 : Int) = 4) by decide), if_neg (show ¬ (6 : Int) = 5 by decide), if_pos rfl, hr1, hr2, hr3, if_pos z]
  rw [e0]
  clear hr1 hr2 hr3 e0
  show ji _ _ _ _ _ (.d (.int .i64 (-1))) (bS r3.1 ds)
  refine fy af Tryz.func108 rfl (by kernel_rfl) ⟨Nat.le_of_ble_eq_true rfl, Nat.le_of_ble_eq_true rfl⟩ rfl (bx _ _) rfl (bx _ _) ?_
  repeat' ((conv => whnf); first | refine cx.xr (C := ⟨[9, 18, 19], [11, 12, 14, 15, 16, 17], [1000000, 2000000], [2000000], []⟩) [(9, 165), (18, 165), (19, 164)] rfl rfl (by kernel_rfl) (by first | rfl | (simp only [ka, List.all_cons, List.all_nil, a5, jy, Bool.or_true, Bool.and_true]; first | done | rfl)) ?_ rfl | refine b7.mk (show Dw.mj _ _ _ _ = true by kernel_rfl) ?_ | ((with_reducible refine Br.ck ?hpp ?_); case hpp => first | omega | (dsimp only; omega)) | ((with_reducible refine Br.b4 ?hpp ?_); case hpp => first | omega | (dsimp only; omega)) | ((with_reducible show TkE (fa Nd.cells es) _ _ _); refine TkE.mk _ T1 rfl ?_) | ((with_reducible show ah (fa iC ds) (0 + Int.toNat a * _) _); refine ah.mk _ LA ?_) | ((with_reducible show ah (fa iC ds) (0 + Int.toNat b * _) _); refine ah.mk _ LB ?_) | refine eg.au (s1) [(1000000, 1000000), (2000000, 2000000)] [] (.d (.int .i64 r1.2)) (bH r1.1) ?_ | refine eg.au (s2) [(1000000, 1000000), (2000000, 2000000)] [] (.d (.int .i64 r2.2)) (bH r2.1) ?_ | refine eg.au (s3) [(1000000, 1000000), (2000000, 2000000)] [] (.d (.int .i64 r3.2)) (bH r3.1) ?_ | refine rgE ?_ | refine Cd.mk rfl ?_ | refine Br.t ?_ | refine ah.mk _ rfl ?_ | ((with_reducible refine EqE.idS ?_); (refine EqE.fP ?_; (conv => whnf); fail_if_success (show ae _ _))) | refine Cd.ol ?_ | refine Cd.os ?_)
  exact fo.own 6 rfl rfl (by first | rfl | (show [_, _, (1000001, false, A.kls _ (A.kls _ (fa iC ds)))] = _; rw [a5, a5]; first | done | rfl) | (show [_, _, (1000001, false, A.kls _ (fa iC ds))] = _; rw [a5]; first | done | rfl))
 ·have w4 := v7 r3.1 b b
  have s4 := mb r3.1 b b (by omega)
  obtain ⟨r4, hr4⟩ : ∃ r, tmF r3.1 b b = r := ⟨_, rfl⟩
  rw [hr4] at s4 w4
  have s5 := aq8 r4.1 ⟨6, r3.2, r4.2, 0, RC.nil⟩ (by omega)
  obtain ⟨r5, hr5⟩ : ∃ r, adF r4.1 ⟨6, r3.2, r4.2, 0, RC.nil⟩ = r := ⟨_, rfl⟩
  rw [hr5] at s5
  have e0 : slF es i ⟨6, a, b, n', ⟨b1, l1, e1, c1, k1, f1⟩⟩ ds = r5 := by
   unfold slF; dsimp only; rw [hA, hB, if_neg (show ¬ (6 : Int) = 1 by decide), if_neg (show ¬ ((6 : Int) = 3 ∨ (6 : Int) = 4) by decide), if_neg (show ¬ (6 : Int) = 5 by decide), if_pos rfl, hr1, hr2, hr3, if_neg z, hr4, hr5]
  rw [e0]
  clear hr1 hr2 hr3 hr4 hr5 e0
  refine fy af Tryz.func108 rfl (by kernel_rfl) ⟨Nat.le_of_ble_eq_true rfl, Nat.le_of_ble_eq_true rfl⟩ rfl (bx _ _) rfl (bx _ _) ?_
  repeat' ((conv => whnf); first | refine ag.own (jl.au (s4) [(1000000, 1000000), (2000000, 2000000)] [] (.d (.int .i64 r4.2)) (bH r4.1) [] ?_) | refine ag.own (jl.au (s5) [(1000000, 1000000), (2000000, 2000000)] [] (.d (.int .i64 r5.2)) (bH r5.1) [] ?_) | refine cx.xr (C := ⟨[9, 18, 19], [11, 12, 14, 15, 16, 17], [1000000, 2000000], [2000000], []⟩) [(9, 165), (18, 165), (19, 164)] rfl rfl (by kernel_rfl) (by first | rfl | (simp only [ka, List.all_cons, List.all_nil, a5, jy, Bool.or_true, Bool.and_true]; first | done | rfl)) ?_ rfl | refine b7.mk (show Dw.mj _ _ _ _ = true by kernel_rfl) ?_ | ((with_reducible refine Br.b4 ?hpp ?_); case hpp => first | omega | (dsimp only; omega)) | ((with_reducible show TkE (fa Nd.cells es) _ _ _); refine TkE.mk _ T1 rfl ?_) | ((with_reducible show ah (fa iC ds) (0 + Int.toNat a * _) _); refine ah.mk _ LA ?_) | ((with_reducible show ah (fa iC ds) (0 + Int.toNat b * _) _); refine ah.mk _ LB ?_) | refine eg.au (s1) [(1000000, 1000000), (2000000, 2000000)] [] (.d (.int .i64 r1.2)) (bH r1.1) ?_ | refine eg.au (s2) [(1000000, 1000000), (2000000, 2000000)] [] (.d (.int .i64 r2.2)) (bH r2.1) ?_ | refine eg.au (s3) [(1000000, 1000000), (2000000, 2000000)] [] (.d (.int .i64 r3.2)) (bH r3.1) ?_ | refine rgE ?_ | refine Cd.mk rfl ?_ | refine Br.t ?_ | refine ah.mk _ rfl ?_ | ((with_reducible refine EqE.idS ?_); (refine EqE.fP ?_; (conv => whnf); fail_if_success (show ae _ _))) | refine Cd.ol ?_ | refine Cd.os ?_)
  exact fo.own 6 rfl rfl (by first | rfl | (show [_, _, (1000001, false, A.kls _ (A.kls _ (fa iC ds)))] = _; rw [a5, a5]; first | done | rfl) | (show [_, _, (1000001, false, A.kls _ (fa iC ds))] = _; rw [a5]; first | done | rfl))
end Go.Ev.Ar

namespace Go.Ev.Ar
open Go Go.Ev Go.Proofs
set_option maxRecDepth 10000 in
set_option maxHeartbeats 16000000 in
theorem av0 {es : List Nd} {ds : List Int} {i : Nat} {n : Nd} (he : es.length < 3000) (hi : i < es.length) (hx : es.getD i Nd.nil = n) (hkk : n.k = 7) (hk : 1 ≤ n.k ∧ n.k ≤ 10 ∧ n.k ≠ 2) (ha : 3 ≤ n.k → 0 ≤ n.a ∧ n.a < ds.length) (hb : 3 ≤ n.k → n.k ≤ 6 → 0 ≤ n.b ∧ n.b < ds.length) (hn : n.k = 7 → 0 ≤ n.n ∧ n.n ≤ 64) : BS es ds i (slF es i n ds) := by
 have T1 : ((fa Nd.cells es).drop (0 + (i : Int).toNat * 10)).take 10 = n.cells.map A.d := by rw [← hx]; exact tv Nd.len Nd.nil es i hi
 obtain ⟨k, a, b, n', ⟨b1, l1, e1, c1, k1, f1⟩⟩ := n
 dsimp only at hk ha hb hn
 dsimp only at hkk
 subst hkk
 clear hx
 obtain ⟨a0, a1⟩ := ha (by decide)
 obtain ⟨dA, hA⟩ : ∃ d, ds.getD a.toNat 0 = d := ⟨_, rfl⟩
 have LA := ua a0 a1 hA
 have hn := hn rfl
 by_cases z : dA = -1
 ·have e0 : slF es i ⟨7, a, b, n', ⟨b1, l1, e1, c1, k1, f1⟩⟩ ds = (es, -1) := by
   unfold slF; dsimp only; rw [hA, if_neg (show ¬ (7 : Int) = 1 by decide), if_neg (show ¬ ((7 : Int) = 3 ∨ (7 : Int) = 4) by decide), if_neg (show ¬ (7 : Int) = 5 by decide), if_neg (show ¬ (7 : Int) = 6 by decide), if_pos z]
  rw [e0]
  clear e0
  show ji _ _ _ _ _ (.d (.int .i64 (-1))) (bS es ds)
  refine fy af Tryz.func108 rfl (by kernel_rfl) ⟨Nat.le_of_ble_eq_true rfl, Nat.le_of_ble_eq_true rfl⟩ rfl (bx _ _) rfl (bx _ _) ?_
  repeat' ((conv => whnf); first | ((with_reducible refine Br.ck ?hpp ?_); case hpp => first | omega | (dsimp only; omega)) | ((with_reducible refine Br.b4 ?hpp ?_); case hpp => first | omega | (dsimp only; omega)) | ((with_reducible show TkE (fa Nd.cells es) _ _ _); refine TkE.mk _ T1 rfl ?_) | ((with_reducible show ah (fa iC ds) (0 + Int.toNat a * _) _); refine ah.mk _ LA ?_) | refine rgE ?_ | refine Cd.mk rfl ?_ | refine ah.mk _ rfl ?_ | ((with_reducible refine EqE.idS ?_); (refine EqE.fP ?_; (conv => whnf); fail_if_success (show ae _ _))) | refine Cd.ol ?_ | refine Cd.os ?_)
  exact fo.own 6 rfl rfl (by first | rfl | (show [_, _, (1000001, false, A.kls _ (A.kls _ (fa iC ds)))] = _; rw [a5, a5]; first | done | rfl) | (show [_, _, (1000001, false, A.kls _ (fa iC ds))] = _; rw [a5]; first | done | rfl))
 ·by_cases zn : n' = 0
  ·have e0 : slF es i ⟨7, a, b, n', ⟨b1, l1, e1, c1, k1, f1⟩⟩ ds = (es, -1) := by
    unfold slF; dsimp only; rw [hA, if_neg (show ¬ (7 : Int) = 1 by decide), if_neg (show ¬ ((7 : Int) = 3 ∨ (7 : Int) = 4) by decide), if_neg (show ¬ (7 : Int) = 5 by decide), if_neg (show ¬ (7 : Int) = 6 by decide), if_neg z, if_pos rfl, if_pos zn]
   rw [e0]
   clear e0
   show ji _ _ _ _ _ (.d (.int .i64 (-1))) (bS es ds)
   refine fy af Tryz.func108 rfl (by kernel_rfl) ⟨Nat.le_of_ble_eq_true rfl, Nat.le_of_ble_eq_true rfl⟩ rfl (bx _ _) rfl (bx _ _) ?_
   repeat' ((conv => whnf); first | ((with_reducible refine Br.ck ?hpp ?_); case hpp => first | omega | (dsimp only; omega)) | ((with_reducible refine Br.b4 ?hpp ?_); case hpp => first | omega | (dsimp only; omega)) | ((with_reducible show TkE (fa Nd.cells es) _ _ _); refine TkE.mk _ T1 rfl ?_) | ((with_reducible show ah (fa iC ds) (0 + Int.toNat a * _) _); refine ah.mk _ LA ?_) | refine rgE ?_ | refine Cd.mk rfl ?_ | refine Br.t ?_ | refine ah.mk _ rfl ?_ | ((with_reducible refine EqE.idS ?_); (refine EqE.fP ?_; (conv => whnf); fail_if_success (show ae _ _))) | refine Cd.ol ?_ | refine Cd.os ?_)
   exact fo.own 6 rfl rfl (by first | rfl | (show [_, _, (1000001, false, A.kls _ (A.kls _ (fa iC ds)))] = _; rw [a5, a5]; first | done | rfl) | (show [_, _, (1000001, false, A.kls _ (fa iC ds))] = _; rw [a5]; first | done | rfl))
  ·have w1 := aat es ⟨7, a, 0, n' - 1, RC.nil⟩
   have s1 := aq8 es ⟨7, a, 0, n' - 1, RC.nil⟩ (by omega)
   obtain ⟨r1, hr1⟩ : ∃ r, adF es ⟨7, a, 0, n' - 1, RC.nil⟩ = r := ⟨_, rfl⟩
   rw [hr1] at s1 w1
   have w2 := aat r1.1 (cN n')
   have s2 := aej r1.1 n' (by omega) (by omega)
   obtain ⟨r2, hr2⟩ : ∃ r, adF r1.1 (cN n') = r := ⟨_, rfl⟩
   rw [hr2] at s2 w2
   have w3 := v7 r2.1 r2.2 r1.2
   have s3 := mb r2.1 r2.2 r1.2 (by omega)
   obtain ⟨r3, hr3⟩ : ∃ r, tmF r2.1 r2.2 r1.2 = r := ⟨_, rfl⟩
   rw [hr3] at s3 w3
   have s4 := mb r3.1 r3.2 dA (by omega)
   obtain ⟨r4, hr4⟩ : ∃ r, tmF r3.1 r3.2 dA = r := ⟨_, rfl⟩
   rw [hr4] at s4
   have e0 : slF es i ⟨7, a, b, n', ⟨b1, l1, e1, c1, k1, f1⟩⟩ ds = r4 := by
    unfold slF; dsimp only; rw [hA, if_neg (show ¬ (7 : Int) = 1 by decide), if_neg (show ¬ ((7 : Int) = 3 ∨ (7 : Int) = 4) by decide), if_neg (show ¬ (7 : Int) = 5 by decide), if_neg (show ¬ (7 : Int) = 6 by decide), if_neg z, if_pos rfl, if_neg zn, hr1, hr2, hr3, hr4]
   rw [e0]
   clear hr1 hr2 hr3 hr4 e0
   refine fy af Tryz.func108 rfl (by kernel_rfl) ⟨Nat.le_of_ble_eq_true rfl, Nat.le_of_ble_eq_true rfl⟩ rfl (bx _ _) rfl (bx _ _) ?_
   repeat' ((conv => whnf); first | refine ag.own (jl.au (s1) [(1000000, 1000000), (2000000, 2000000)] [] (.d (.int .i64 r1.2)) (bH r1.1) [] ?_) | refine cx.xr (C := ⟨[5, 7, 13], [9, 10, 11, 12], [1000000, 2000000], [2000000], []⟩) [(5, 163), (7, 165), (13, 165)] rfl rfl (by kernel_rfl) (show ka _ [_, _, (7, false, _), (1000001, false, A.kls _ (fa iC ds))] = true by simp only [ka, List.all_cons, List.all_nil, a5, jy, Bool.or_true, Bool.and_true]; rfl) ?_ rfl | refine b7.mk (show Dw.mj _ _ _ _ = true by kernel_rfl) ?_ | ((with_reducible refine Br.b4 ?hpp ?_); case hpp => first | omega | (dsimp only; omega)) | ((with_reducible show ah (A.kls _ _) _ _); rw [a5]) | ((with_reducible show TkE (fa Nd.cells es) _ _ _); refine TkE.mk _ T1 rfl ?_) | ((with_reducible show ah (fa iC ds) (0 + Int.toNat a * _) _); refine ah.mk _ LA ?_) | refine eg.au (s2) [(1000000, 1000000), (2000000, 2000000)] [] (.d (.int .i64 r2.2)) (bH r2.1) ?_ | refine eg.au (s3) [(1000000, 1000000), (2000000, 2000000)] [] (.d (.int .i64 r3.2)) (bH r3.1) ?_ | refine eg.au (s4) [(1000000, 1000000), (2000000, 2000000)] [] (.d (.int .i64 r4.2)) (bH r4.1) ?_ | refine rgE ?_ | refine Cd.mk rfl ?_ | refine Br.t ?_ | refine ah.mk _ rfl ?_ | ((with_reducible refine EqE.idW ?_); refine EqE.mk (n' - 1) (show IntKind.i64.wrap (n' - 1) = n' - 1 from aj (by omega) (by omega)) ?_) | ((with_reducible refine EqE.idS ?_); (refine EqE.fP ?_; (conv => whnf); fail_if_success (show ae _ _))) | refine Cd.ol ?_ | refine Cd.os ?_)
   exact fo.own 6 rfl rfl (by first | rfl | (show [_, _, (1000001, false, A.kls _ (A.kls _ (fa iC ds)))] = _; rw [a5, a5]; first | done | rfl) | (show [_, _, (1000001, false, A.kls _ (fa iC ds))] = _; rw [a5]; first | done | rfl))
end Go.Ev.Ar

namespace Go.Ev.Ar
open Go Go.Ev Go.Proofs
set_option maxRecDepth 10000 in
set_option maxHeartbeats 16000000 in
theorem av1 {es : List Nd} {ds : List Int} {i : Nat} {n : Nd} (he : es.length < 3000) (hi : i < es.length) (hx : es.getD i Nd.nil = n) (hkk : n.k = 8) (hk : 1 ≤ n.k ∧ n.k ≤ 10 ∧ n.k ≠ 2) (ha : 3 ≤ n.k → 0 ≤ n.a ∧ n.a < ds.length) (hb : 3 ≤ n.k → n.k ≤ 6 → 0 ≤ n.b ∧ n.b < ds.length) (hn : n.k = 7 → 0 ≤ n.n ∧ n.n ≤ 64) : BS es ds i (slF es i n ds) := by
 have T1 : ((fa Nd.cells es).drop (0 + (i : Int).toNat * 10)).take 10 = n.cells.map A.d := by rw [← hx]; exact tv Nd.len Nd.nil es i hi
 obtain ⟨k, a, b, n', ⟨b1, l1, e1, c1, k1, f1⟩⟩ := n
 dsimp only at hk ha hb hn
 dsimp only at hkk
 subst hkk
 clear hx
 obtain ⟨a0, a1⟩ := ha (by decide)
 obtain ⟨dA, hA⟩ : ∃ d, ds.getD a.toNat 0 = d := ⟨_, rfl⟩
 have LA := ua a0 a1 hA
 by_cases z : dA = -1
 ·have e0 : slF es i ⟨8, a, b, n', ⟨b1, l1, e1, c1, k1, f1⟩⟩ ds = (es, -1) := by
   unfold slF; dsimp only; rw [hA, if_neg (show ¬ (8 : Int) = 1 by decide), if_neg (show ¬ ((8 : Int) = 3 ∨ (8 : Int) = 4) by decide), if_neg (show ¬ (8 : Int) = 5 by decide), if_neg (show ¬ (8 : Int) = 6 by decide), if_pos z]
  rw [e0]
  clear e0
  show ji _ _ _ _ _ (.d (.int .i64 (-1))) (bS es ds)
  refine fy af Tryz.func108 rfl (by kernel_rfl) ⟨Nat.le_of_ble_eq_true rfl, Nat.le_of_ble_eq_true rfl⟩ rfl (bx _ _) rfl (bx _ _) ?_
  repeat' ((conv => whnf); first | ((with_reducible refine Br.ck ?hpp ?_); case hpp => first | omega | (dsimp only; omega)) | ((with_reducible refine Br.b4 ?hpp ?_); case hpp => first | omega | (dsimp only; omega)) | ((with_reducible show TkE (fa Nd.cells es) _ _ _); refine TkE.mk _ T1 rfl ?_) | ((with_reducible show ah (fa iC ds) (0 + Int.toNat a * _) _); refine ah.mk _ LA ?_) | refine rgE ?_ | refine Cd.mk rfl ?_ | refine ah.mk _ rfl ?_ | ((with_reducible refine EqE.idS ?_); (refine EqE.fP ?_; (conv => whnf); fail_if_success (show ae _ _))) | refine Cd.ol ?_ | refine Cd.os ?_)
  exact fo.own 6 rfl rfl (by first | rfl | (show [_, _, (1000001, false, A.kls _ (A.kls _ (fa iC ds)))] = _; rw [a5, a5]; first | done | rfl) | (show [_, _, (1000001, false, A.kls _ (fa iC ds))] = _; rw [a5]; first | done | rfl))
 ·have s1 := mb es i dA (by omega)
  obtain ⟨r1, hr1⟩ : ∃ r, tmF es i dA = r := ⟨_, rfl⟩
  rw [hr1] at s1
  have e0 : slF es i ⟨8, a, b, n', ⟨b1, l1, e1, c1, k1, f1⟩⟩ ds = r1 := by
   unfold slF; dsimp only; rw [hA, if_neg (show ¬ (8 : Int) = 1 by decide), if_neg (show ¬ ((8 : Int) = 3 ∨ (8 : Int) = 4) by decide), if_neg (show ¬ (8 : Int) = 5 by decide), if_neg (show ¬ (8 : Int) = 6 by decide), if_neg z, if_neg (show ¬ (8 : Int) = 7 by decide), if_pos rfl, hr1]
  rw [e0]
  clear hr1 e0
  refine fy af Tryz.func108 rfl (by kernel_rfl) ⟨Nat.le_of_ble_eq_true rfl, Nat.le_of_ble_eq_true rfl⟩ rfl (bx _ _) rfl (bx _ _) ?_
  repeat' ((conv => whnf); first | refine ag.own (jl.au (s1) [(1000000, 1000000), (2000000, 2000000)] [] (.d (.int .i64 r1.2)) (bH r1.1) [] ?_) | ((with_reducible refine Br.b4 ?hpp ?_); case hpp => first | omega | (dsimp only; omega)) | ((with_reducible show TkE (fa Nd.cells es) _ _ _); refine TkE.mk _ T1 rfl ?_) | ((with_reducible show ah (fa iC ds) (0 + Int.toNat a * _) _); refine ah.mk _ LA ?_) | refine rgE ?_ | refine Cd.mk rfl ?_ | refine Br.t ?_ | refine ah.mk _ rfl ?_ | ((with_reducible refine EqE.idS ?_); (refine EqE.fP ?_; (conv => whnf); fail_if_success (show ae _ _))) | refine Cd.ol ?_ | refine Cd.os ?_)
  exact fo.own 6 rfl rfl (by first | rfl | (show [_, _, (1000001, false, A.kls _ (A.kls _ (fa iC ds)))] = _; rw [a5, a5]; first | done | rfl) | (show [_, _, (1000001, false, A.kls _ (fa iC ds))] = _; rw [a5]; first | done | rfl))
end Go.Ev.Ar

namespace Go.Ev.Ar
open Go Go.Ev Go.Proofs
set_option maxRecDepth 10000 in
set_option maxHeartbeats 16000000 in
theorem av2 {es : List Nd} {ds : List Int} {i : Nat} {n : Nd} (he : es.length < 3000) (hi : i < es.length) (hx : es.getD i Nd.nil = n) (hkk : n.k = 9) (hk : 1 ≤ n.k ∧ n.k ≤ 10 ∧ n.k ≠ 2) (ha : 3 ≤ n.k → 0 ≤ n.a ∧ n.a < ds.length) (hb : 3 ≤ n.k → n.k ≤ 6 → 0 ≤ n.b ∧ n.b < ds.length) (hn : n.k = 7 → 0 ≤ n.n ∧ n.n ≤ 64) : BS es ds i (slF es i n ds) := by
 have T1 : ((fa Nd.cells es).drop (0 + (i : Int).toNat * 10)).take 10 = n.cells.map A.d := by rw [← hx]; exact tv Nd.len Nd.nil es i hi
 obtain ⟨k, a, b, n', ⟨b1, l1, e1, c1, k1, f1⟩⟩ := n
 dsimp only at hk ha hb hn
 dsimp only at hkk
 subst hkk
 clear hx
 obtain ⟨a0, a1⟩ := ha (by decide)
 obtain ⟨dA, hA⟩ : ∃ d, ds.getD a.toNat 0 = d := ⟨_, rfl⟩
 have LA := ua a0 a1 hA
 by_cases z : dA = -1
 ·have e0 : slF es i ⟨9, a, b, n', ⟨b1, l1, e1, c1, k1, f1⟩⟩ ds = (es, -1) := by
   unfold slF; dsimp only; rw [hA, if_neg (show ¬ (9 : Int) = 1 by decide), if_neg (show ¬ ((9 : Int) = 3 ∨ (9 : Int) = 4) by decide), if_neg (show ¬ (9 : Int) = 5 by decide), if_neg (show ¬ (9 : Int) = 6 by decide), if_pos z]
  rw [e0]
  clear e0
  show ji _ _ _ _ _ (.d (.int .i64 (-1))) (bS es ds)
  refine fy af Tryz.func108 rfl (by kernel_rfl) ⟨Nat.le_of_ble_eq_true rfl, Nat.le_of_ble_eq_true rfl⟩ rfl (bx _ _) rfl (bx _ _) ?_
  repeat' ((conv => whnf); first | ((with_reducible refine Br.ck ?hpp ?_); case hpp => first | omega | (dsimp only; omega)) | ((with_reducible refine Br.b4 ?hpp ?_); case hpp => first | omega | (dsimp only; omega)) | ((with_reducible show TkE (fa Nd.cells es) _ _ _); refine TkE.mk _ T1 rfl ?_) | ((with_reducible show ah (fa iC ds) (0 + Int.toNat a * _) _); refine ah.mk _ LA ?_) | refine rgE ?_ | refine Cd.mk rfl ?_ | refine ah.mk _ rfl ?_ | ((with_reducible refine EqE.idS ?_); (refine EqE.fP ?_; (conv => whnf); fail_if_success (show ae _ _))) | refine Cd.ol ?_ | refine Cd.os ?_)
  exact fo.own 6 rfl rfl (by first | rfl | (show [_, _, (1000001, false, A.kls _ (A.kls _ (fa iC ds)))] = _; rw [a5, a5]; first | done | rfl) | (show [_, _, (1000001, false, A.kls _ (fa iC ds))] = _; rw [a5]; first | done | rfl))
 ·have w1 := aat es ⟨10, a, 0, 0, RC.nil⟩
  have s1 := aq8 es ⟨10, a, 0, 0, RC.nil⟩ (by omega)
  obtain ⟨r1, hr1⟩ : ∃ r, adF es ⟨10, a, 0, 0, RC.nil⟩ = r := ⟨_, rfl⟩
  rw [hr1] at s1 w1
  have s2 := mb r1.1 r1.2 dA (by omega)
  obtain ⟨r2, hr2⟩ : ∃ r, tmF r1.1 r1.2 dA = r := ⟨_, rfl⟩
  rw [hr2] at s2
  have e0 : slF es i ⟨9, a, b, n', ⟨b1, l1, e1, c1, k1, f1⟩⟩ ds = r2 := by
   unfold slF; dsimp only; rw [hA, if_neg (show ¬ (9 : Int) = 1 by decide), if_neg (show ¬ ((9 : Int) = 3 ∨ (9 : Int) = 4) by decide), if_neg (show ¬ (9 : Int) = 5 by decide), if_neg (show ¬ (9 : Int) = 6 by decide), if_neg z, if_neg (show ¬ (9 : Int) = 7 by decide), if_neg (show ¬ (9 : Int) = 8 by decide), if_pos rfl, hr1, hr2]
  rw [e0]
  clear hr1 hr2 e0
  refine fy af Tryz.func108 rfl (by kernel_rfl) ⟨Nat.le_of_ble_eq_true rfl, Nat.le_of_ble_eq_true rfl⟩ rfl (bx _ _) rfl (bx _ _) ?_
  repeat' ((conv => whnf); first | refine cx.xr (C := ⟨[5, 11], [7, 8, 9, 10], [1000000, 2000000], [2000000], []⟩) [(5, 166), (11, 165)] rfl rfl (by kernel_rfl) (by first | rfl | (simp only [ka, List.all_cons, List.all_nil, a5, jy, Bool.or_true, Bool.and_true]; first | done | rfl)) ?_ rfl | refine b7.mk (show Dw.mj _ _ _ _ = true by kernel_rfl) ?_ | ((with_reducible refine Br.b4 ?hpp ?_); case hpp => first | omega | (dsimp only; omega)) | ((with_reducible show TkE (fa Nd.cells es) _ _ _); refine TkE.mk _ T1 rfl ?_) | ((with_reducible show ah (fa iC ds) (0 + Int.toNat a * _) _); refine ah.mk _ LA ?_) | refine eg.au (s1) [(1000000, 1000000), (2000000, 2000000)] [] (.d (.int .i64 r1.2)) (bH r1.1) ?_ | refine eg.au (s2) [(1000000, 1000000), (2000000, 2000000)] [] (.d (.int .i64 r2.2)) (bH r2.1) ?_ | refine rgE ?_ | refine Cd.mk rfl ?_ | refine Br.t ?_ | refine ah.mk _ rfl ?_ | ((with_reducible refine EqE.idS ?_); (refine EqE.fP ?_; (conv => whnf); fail_if_success (show ae _ _))) | refine Cd.ol ?_ | refine Cd.os ?_)
  exact fo.own 6 rfl rfl (by first | rfl | (show [_, _, (1000001, false, A.kls _ (A.kls _ (fa iC ds)))] = _; rw [a5, a5]; first | done | rfl) | (show [_, _, (1000001, false, A.kls _ (fa iC ds))] = _; rw [a5]; first | done | rfl))
end Go.Ev.Ar

namespace Go.Ev.Ar
open Go Go.Ev Go.Proofs
set_option maxRecDepth 10000 in
set_option maxHeartbeats 16000000 in
theorem atj {es : List Nd} {ds : List Int} {i : Nat} {n : Nd} (he : es.length < 3000) (hi : i < es.length) (hx : es.getD i Nd.nil = n) (hkk : n.k = 10) (hk : 1 ≤ n.k ∧ n.k ≤ 10 ∧ n.k ≠ 2) (ha : 3 ≤ n.k → 0 ≤ n.a ∧ n.a < ds.length) (hb : 3 ≤ n.k → n.k ≤ 6 → 0 ≤ n.b ∧ n.b < ds.length) (hn : n.k = 7 → 0 ≤ n.n ∧ n.n ≤ 64) : BS es ds i (slF es i n ds) := by
 have T1 : ((fa Nd.cells es).drop (0 + (i : Int).toNat * 10)).take 10 = n.cells.map A.d := by rw [← hx]; exact tv Nd.len Nd.nil es i hi
 obtain ⟨k, a, b, n', ⟨b1, l1, e1, c1, k1, f1⟩⟩ := n
 dsimp only at hk ha hb hn
 dsimp only at hkk
 subst hkk
 clear hx
 obtain ⟨a0, a1⟩ := ha (by decide)
 obtain ⟨dA, hA⟩ : ∃ d, ds.getD a.toNat 0 = d := ⟨_, rfl⟩
 have LA := ua a0 a1 hA
 by_cases z : dA = -1
 ·have e0 : slF es i ⟨10, a, b, n', ⟨b1, l1, e1, c1, k1, f1⟩⟩ ds = (es, -1) := by
   unfold slF; dsimp only; rw [hA, if_neg (show ¬ (10 : Int) = 1 by decide), if_neg (show ¬ ((10 : Int) = 3 ∨ (10 : Int) = 4) by decide), if_neg (show ¬ (10 : Int) = 5 by decide), if_neg (show ¬ (10 : Int) = 6 by decide), if_pos z]
  rw [e0]
  clear e0
  show ji _ _ _ _ _ (.d (.int .i64 (-1))) (bS es ds)
  refine fy af Tryz.func108 rfl (by kernel_rfl) ⟨Nat.le_of_ble_eq_true rfl, Nat.le_of_ble_eq_true rfl⟩ rfl (bx _ _) rfl (bx _ _) ?_
  repeat' ((conv => whnf); first | ((with_reducible refine Br.ck ?hpp ?_); case hpp => first | omega | (dsimp only; omega)) | ((with_reducible refine Br.b4 ?hpp ?_); case hpp => first | omega | (dsimp only; omega)) | ((with_reducible show TkE (fa Nd.cells es) _ _ _); refine TkE.mk _ T1 rfl ?_) | ((with_reducible show ah (fa iC ds) (0 + Int.toNat a * _) _); refine ah.mk _ LA ?_) | refine rgE ?_ | refine Cd.mk rfl ?_ | refine ah.mk _ rfl ?_ | ((with_reducible refine EqE.idS ?_); (refine EqE.fP ?_; (conv => whnf); fail_if_success (show ae _ _))) | refine Cd.ol ?_ | refine Cd.os ?_)
  exact fo.own 6 rfl rfl (by first | rfl | (show [_, _, (1000001, false, A.kls _ (A.kls _ (fa iC ds)))] = _; rw [a5, a5]; first | done | rfl) | (show [_, _, (1000001, false, A.kls _ (fa iC ds))] = _; rw [a5]; first | done | rfl))
 ·have w1 := aat es ⟨9, a, 0, 0, RC.nil⟩
  have s1 := aq8 es ⟨9, a, 0, 0, RC.nil⟩ (by omega)
  obtain ⟨r1, hr1⟩ : ∃ r, adF es ⟨9, a, 0, 0, RC.nil⟩ = r := ⟨_, rfl⟩
  rw [hr1] at s1 w1
  have w2 := aat r1.1 (cN (-1))
  have s2 := aej r1.1 (-1) (by omega) (by decide)
  obtain ⟨r2, hr2⟩ : ∃ r, adF r1.1 (cN (-1)) = r := ⟨_, rfl⟩
  rw [hr2] at s2 w2
  have w3 := v7 r2.1 r2.2 r1.2
  have s3 := mb r2.1 r2.2 r1.2 (by omega)
  obtain ⟨r3, hr3⟩ : ∃ r, tmF r2.1 r2.2 r1.2 = r := ⟨_, rfl⟩
  rw [hr3] at s3 w3
  have s4 := mb r3.1 r3.2 dA (by omega)
  obtain ⟨r4, hr4⟩ : ∃ r, tmF r3.1 r3.2 dA = r := ⟨_, rfl⟩
  rw [hr4] at s4
  have e0 : slF es i ⟨10, a, b, n', ⟨b1, l1, e1, c1, k1, f1⟩⟩ ds = r4 := by
   unfold slF; dsimp only; rw [hA, if_neg (show ¬ (10 : Int) = 1 by decide), if_neg (show ¬ ((10 : Int) = 3 ∨ (10 : Int) = 4) by decide), if_neg (show ¬ (10 : Int) = 5 by decide), if_neg (show ¬ (10 : Int) = 6 by decide), if_neg z, if_neg (show ¬ (10 : Int) = 7 by decide), if_neg (show ¬ (10 : Int) = 8 by decide), if_neg (show ¬ (10 : Int) = 9 by decide), hr1, hr2, hr3, hr4]
  rw [e0]
  clear hr1 hr2 hr3 hr4 e0
  refine fy af Tryz.func108 rfl (by kernel_rfl) ⟨Nat.le_of_ble_eq_true rfl, Nat.le_of_ble_eq_true rfl⟩ rfl (bx _ _) rfl (bx _ _) ?_
  repeat' ((conv => whnf); first | refine ag.own (jl.au (s1) [(1000000, 1000000), (2000000, 2000000)] [] (.d (.int .i64 r1.2)) (bH r1.1) [] ?_) | refine cx.xr (C := ⟨[3, 5, 11], [7, 8, 9, 10], [1000000, 2000000], [2000000], []⟩) [(3, 163), (5, 165), (11, 165)] rfl rfl (by kernel_rfl) (show ka _ [_, _, (7, false, _), (1000001, false, A.kls _ (fa iC ds))] = true by simp only [ka, List.all_cons, List.all_nil, a5, jy, Bool.or_true, Bool.and_true]; rfl) ?_ rfl | refine b7.mk (show Dw.mj _ _ _ _ = true by kernel_rfl) ?_ | ((with_reducible refine Br.b4 ?hpp ?_); case hpp => first | omega | (dsimp only; omega)) | ((with_reducible show ah (A.kls _ _) _ _); rw [a5]) | ((with_reducible show TkE (fa Nd.cells es) _ _ _); refine TkE.mk _ T1 rfl ?_) | ((with_reducible show ah (fa iC ds) (0 + Int.toNat a * _) _); refine ah.mk _ LA ?_) | refine eg.au (s2) [(1000000, 1000000), (2000000, 2000000)] [] (.d (.int .i64 r2.2)) (bH r2.1) ?_ | refine eg.au (s3) [(1000000, 1000000), (2000000, 2000000)] [] (.d (.int .i64 r3.2)) (bH r3.1) ?_ | refine eg.au (s4) [(1000000, 1000000), (2000000, 2000000)] [] (.d (.int .i64 r4.2)) (bH r4.1) ?_ | refine rgE ?_ | refine Cd.mk rfl ?_ | refine Br.t ?_ | refine ah.mk _ rfl ?_ | ((with_reducible refine EqE.idS ?_); (refine EqE.fP ?_; (conv => whnf); fail_if_success (show ae _ _))) | refine Cd.ol ?_ | refine Cd.os ?_)
  exact fo.own 6 rfl rfl (by first | rfl | (show [_, _, (1000001, false, A.kls _ (A.kls _ (fa iC ds)))] = _; rw [a5, a5]; first | done | rfl) | (show [_, _, (1000001, false, A.kls _ (fa iC ds))] = _; rw [a5]; first | done | rfl))
end Go.Ev.Ar

namespace Go.Ev.Ar
open Go Go.Ev Go.Proofs
theorem azv {es : List Nd} {ds : List Int} {i : Nat} {n : Nd} (he : es.length < 3000) (hi : i < es.length) (hx : es.getD i Nd.nil = n) (hk : 1 ≤ n.k ∧ n.k ≤ 10 ∧ n.k ≠ 2) (ha : 3 ≤ n.k → 0 ≤ n.a ∧ n.a < ds.length) (hb : 3 ≤ n.k → n.k ≤ 6 → 0 ≤ n.b ∧ n.b < ds.length) (hn : n.k = 7 → 0 ≤ n.n ∧ n.n ≤ 64) : BS es ds i (slF es i n ds) := by
 have kc : n.k = 1 ∨ n.k = 3 ∨ n.k = 4 ∨ n.k = 5 ∨ n.k = 6 ∨ n.k = 7 ∨ n.k = 8 ∨ n.k = 9 ∨ n.k = 10 := by omega
 rcases kc with h | h | h | h | h | h | h | h | h
 ·exact avv he hi hx h hk ha hb hn
 ·exact avw he hi hx h hk ha hb hn
 ·exact avx he hi hx h hk ha hb hn
 ·exact avy he hi hx h hk ha hb hn
 ·exact avz he hi hx h hk ha hb hn
 ·exact av0 he hi hx h hk ha hb hn
 ·exact av1 he hi hx h hk ha hb hn
 ·exact av2 he hi hx h hk ha hb hn
 ·exact atj he hi hx h hk ha hb hn
end Go.Ev.Ar

namespace Go.Ev.Ar
open Go Go.Ev Go.Proofs
def bC (b : Bool) : List D := [.bool b]
theorem aju (b : Bool) : (bC b).length = 1 := rfl
theorem a2s (n : Nat) : jb (n : Int).toNat (nc [.bool]) = fa bC (List.replicate n false) := by
 rw [Int.toNat_natCast]
 unfold fa jb
 induction n with
 | zero => rfl
 | succ n ih => rw [List.replicate_succ, List.replicate_succ, List.flatten_cons, List.flatMap_cons, List.map_append, ih] <;> rfl
theorem avr (ss : List Bool) (i : Nat) (h : i < ss.length) : (fa bC ss)[i]? = some (.d (.bool (ss.getD i false))) := by
 have e : ∀ ss : List Bool, fa bC ss = ss.map fun s => A.d (.bool s) := fun ss => by
  unfold fa
  clear h
  induction ss with
  | nil => rfl
  | cons s ss ih => rw [List.flatMap_cons, List.map_append, List.map_cons, ih] <;> rfl
 rw [e, List.getElem?_map, List.getElem?_eq_getElem h]; simp [h]
theorem a4n {ss : List Bool} {n : Nat} {a : Int} (hl : ss.length = n) (h0 : 0 ≤ a) (h1 : a < n) {v : Bool} (hv : ss.getD a.toNat false = v) : (fa bC ss)[0 + a.toNat * 1]? = some (.d (.bool v)) := by
 rw [Nat.zero_add, Nat.mul_one, avr _ _ (by omega), hv]
theorem avt {ss : List Bool} {n : Nat} {a : Int} (v : Bool) (hl : ss.length = n) (h0 : 0 ≤ a) (h1 : a < n) : setAt (fa bC ss) (0 + a.toNat * 1) [.d (.bool v)] = fa bC (ss.set a.toNat v) := by
 have := aco (f := bC) (k := 1) aju ss a.toNat v (by omega)
 rw [show ((a.toNat : Nat) : Int) = a by omega] at this; exact this
theorem avs {ss : List Bool} {n : Nat} {a : Int} (hl : ss.length = n) (h0 : 0 ≤ a) (h1 : a < n) : 0 + a.toNat * 1 + 1 ≤ (fa bC ss).length := by rw [du aju]; omega
def akS (bs : List Bool) (i : Nat) (x : Nd) : List Bool :=
 if bs.getD i false = true ∧ 3 ≤ x.k then (if x.k ≤ 6 then (bs.set x.a.toNat true).set x.b.toNat true else bs.set x.a.toNat true) else bs
def akL (xs : List Nd) : Nat → List Bool
 | 0 => (List.replicate xs.length false).set (xs.length - 1) true
 | j + 1 => akS (akL xs j) (xs.length - 1 - j) (xs.getD (xs.length - 1 - j) Nd.nil)
theorem azt (bs : List Bool) (i : Nat) (x : Nd) : (akS bs i x).length = bs.length := by
 unfold akS; split
 ·split <;> simp
 ·rfl
theorem aau (xs : List Nd) : ∀ j, (akL xs j).length = xs.length
 | 0 => by simp [akL]
 | j + 1 => by rw [akL, azt, aau xs j]
def bsl (bs : List Bool) (n : Nat) : D := .slice n (bs.flatMap bC)
set_option maxRecDepth 10000 in
set_option maxHeartbeats 8000000 in
theorem atg (xs : List Nd) (n0 : 0 < xs.length) (hn : xs.length ≤ 45) (hx : ∀ i, i < xs.length → 3 ≤ (xs.getD i Nd.nil).k → (0 ≤ (xs.getD i Nd.nil).a ∧ (xs.getD i Nd.nil).a < xs.length) ∧ ((xs.getD i Nd.nil).k ≤ 6 → 0 ≤ (xs.getD i Nd.nil).b ∧ (xs.getD i Nd.nil).b < xs.length)) : Sim Tryz.prog G0 false 107 [nsl xs] (bsl (akL xs xs.length) xs.length) := by
 have S0 := avt (ss := List.replicate xs.length false) (n := xs.length) (a := (xs.length : Int) - 1) true (by simp) (by omega) (by omega)
 have E0 := avs (ss := List.replicate xs.length false) (n := xs.length) (a := (xs.length : Int) - 1) (by simp) (by omega) (by omega)
 refine ao af Tryz.func107 ?_
 repeat' ((conv => whnf); first | refine EqE.mk _ (a2s xs.length) ?_ | refine Cd.mk E0 ?_ | refine rgE ?_ | refine Cd.mk rfl ?_ | ((with_reducible refine EqE.idW ?_); refine EqE.mk ((xs.length : Int) - 1) (aj (by omega) (by omega)) ?_) | ((with_reducible refine EqE.idS ?_); ((with_reducible show EqE (setAt (fa bC _) _ _) _); refine EqE.mk _ S0 ?_)) | refine Cd.os ?_)
 refine ⟨[], [0, 3, 4], [8], fun m ys h => ∃ (i : Nat) (v : Int), m = i ∧ v = (i : Int) - 1 ∧ i ≤ xs.length ∧
   ys = [.d (nsl xs), .own 8 0 xs.length 1, .d (.int .i64 v)] ∧ h = [(8, false, fa bC (akL xs (xs.length - i)))],
  ⟨_, _, _, ⟨.inl rfl, rfl, rfl, az _ _ _ _ _ _ rfl⟩, xs.length, _, rfl, rfl, by omega, rfl, by rw [Nat.sub_self, akL, show ((xs.length : Int) - 1).toNat = xs.length - 1 by omega]; rfl⟩, ?_⟩
 rintro i ys h ⟨j, v, rfl, hv, hi, rfl, rfl⟩
 rcases i with _ | i
 ·subst hv
  rw [Nat.sub_zero]
  repeat' ((conv => whnf); first | ((with_reducible refine Br.b4 ?hpp ?_); case hpp => first | omega | (dsimp only; omega)) | ((with_reducible show DsE (fa bC _) _); refine DsE.mk ((akL xs xs.length).flatMap bC) rfl ?_) | refine rgE ?_ | refine Cd.mk rfl ?_ | refine Res.mk ?_ | ((with_reducible refine EqE.idL ?_); refine EqE.mk _ rfl ?_))
  show D.slice _ _ = D.slice _ _
  rw [List.drop_zero, List.take_of_length_le (by rw [vh aju, aau]; omega)]
 ·obtain rfl : v = (i : Int) := by omega
  clear hv
  have hlt : i < xs.length := by omega
  have hnx : akL xs (xs.length - i) = akS (akL xs (xs.length - (i + 1))) i (xs.getD i Nd.nil) := by
   rw [show xs.length - i = (xs.length - (i + 1)) + 1 by omega, akL, show xs.length - 1 - (xs.length - (i + 1)) = i by omega]
  have hbl := aau xs (xs.length - (i + 1))
  have hxi := hx i hlt
  have T1 := cg xs i hlt
  generalize akL xs (xs.length - (i + 1)) = bs at *
  generalize xs.getD i Nd.nil = x at *
  obtain ⟨k, a, b, n', ⟨b1, l1, e1, c1, k1, f1⟩⟩ := x
  dsimp only at hxi
  obtain ⟨t, ht⟩ : ∃ t, bs.getD i false = t := ⟨_, rfl⟩
  have L1 : (fa bC bs)[0 + ((i : Nat) : Int).toNat * 1]? = some (.d (.bool t)) := a4n (a := (i : Int)) hbl (by omega) (by omega) (by rw [Int.toNat_natCast]; exact ht)
  unfold akS at hnx
  dsimp only at hnx
  rw [ht] at hnx
  cases t
  ·rw [if_neg (by simp)] at hnx
   repeat' ((conv => whnf); first | ((with_reducible refine Br.ck ?hpp ?_); case hpp => first | omega | (dsimp only; omega)) | refine Cd.mk (ba xs _ (by omega)) ?_ | ((with_reducible show TkE (List.drop _ (List.flatMap Nd.cells _)) _ _ _); refine TkE.mk _ T1 rfl ?_) | ((with_reducible show ah (fa bC bs) _ _); refine ah.mk _ L1 ?_) | refine an.go _ _ ⟨.inl rfl, rfl, rfl, az _ _ _ _ _ _ rfl⟩ ?_ | refine rgE ?_ | refine Cd.mk rfl ?_ | refine Br.f ?_ | ((with_reducible refine EqE.idW ?_); refine EqE.mk _ (aj (by omega) (by omega)) ?_) | ((with_reducible refine EqE.idS ?_); (refine EqE.fP ?_; (conv => whnf); fail_if_success (show ae _ _))) | refine Cd.ol ?_ | refine Cd.os ?_)
   all_goals exact ⟨i, ⟨i, (i : Int) - 1, rfl, rfl, by omega, rfl, by rw [hnx]; first | done | rfl⟩, by omega⟩
  ·by_cases k3 : 3 ≤ k
   ·obtain ⟨⟨a0, a1⟩, hbb⟩ := hxi k3
    have S1 := avt (a := a) true hbl a0 a1
    have E1 := avs (a := a) hbl a0 a1
    have hbl2 : (bs.set a.toNat true).length = xs.length := by simp [hbl]
    by_cases k6 : k ≤ 6
    ·obtain ⟨b0, b2⟩ := hbb k6
     have S2 := avt (a := b) true hbl2 b0 b2
     have E2 := avs (a := b) hbl2 b0 b2
     rw [if_pos ⟨rfl, k3⟩, if_pos k6] at hnx
     repeat' ((conv => whnf); first | ((with_reducible refine Br.ck ?hpp ?_); case hpp => first | omega | (dsimp only; omega)) | refine Cd.mk (ba xs _ (by omega)) ?_ | ((with_reducible show TkE (List.drop _ (List.flatMap Nd.cells _)) _ _ _); refine TkE.mk _ T1 rfl ?_) | ((with_reducible show ah (fa bC bs) _ _); refine ah.mk _ L1 ?_) | refine Cd.mk E1 ?_ | refine Cd.mk E2 ?_ | refine an.go _ _ ⟨.inl rfl, rfl, rfl, az _ _ _ _ _ _ rfl⟩ ?_ | refine rgE ?_ | refine Cd.mk rfl ?_ | refine Br.t ?_ | refine ah.mk _ rfl ?_ | ((with_reducible refine EqE.idW ?_); refine EqE.mk _ (aj (by omega) (by omega)) ?_) | ((with_reducible refine EqE.idS ?_); first | ((with_reducible show EqE (setAt (fa bC bs) _ _) _); refine EqE.mk _ S1 ?_) | ((with_reducible show EqE (setAt (fa bC (List.set bs _ _)) _ _) _); refine EqE.mk _ S2 ?_) | (refine EqE.fP ?_; (conv => whnf); fail_if_success (show ae _ _))) | refine Cd.ol ?_ | refine Cd.os ?_)
     all_goals exact ⟨i, ⟨i, (i : Int) - 1, rfl, rfl, by omega, rfl, by rw [hnx]; first | done | rfl⟩, by omega⟩
    ·rw [if_pos ⟨rfl, k3⟩, if_neg k6] at hnx
     repeat' ((conv => whnf); first | ((with_reducible refine Br.ck ?hpp ?_); case hpp => first | omega | (dsimp only; omega)) | ((with_reducible refine Br.b4 ?hpp ?_); case hpp => first | omega | (dsimp only; omega)) | refine Cd.mk (ba xs _ (by omega)) ?_ | ((with_reducible show TkE (List.drop _ (List.flatMap Nd.cells _)) _ _ _); refine TkE.mk _ T1 rfl ?_) | ((with_reducible show ah (fa bC bs) _ _); refine ah.mk _ L1 ?_) | refine Cd.mk E1 ?_ | refine an.go _ _ ⟨.inl rfl, rfl, rfl, az _ _ _ _ _ _ rfl⟩ ?_ | refine rgE ?_ | refine Cd.mk rfl ?_ | refine Br.t ?_ | refine ah.mk _ rfl ?_ | ((with_reducible refine EqE.idW ?_); refine EqE.mk _ (aj (by omega) (by omega)) ?_) | ((with_reducible refine EqE.idS ?_); first | ((with_reducible show EqE (setAt (fa bC bs) _ _) _); refine EqE.mk _ S1 ?_) | (refine EqE.fP ?_; (conv => whnf); fail_if_success (show ae _ _))) | refine Cd.ol ?_ | refine Cd.os ?_)
     all_goals exact ⟨i, ⟨i, (i : Int) - 1, rfl, rfl, by omega, rfl, by rw [hnx]; first | done | rfl⟩, by omega⟩
   ·rw [if_neg (fun h => k3 h.2)] at hnx
    repeat' ((conv => whnf); first | ((with_reducible refine Br.ck ?hpp ?_); case hpp => first | omega | (dsimp only; omega)) | ((with_reducible refine Br.b4 ?hpp ?_); case hpp => first | omega | (dsimp only; omega)) | refine Cd.mk (ba xs _ (by omega)) ?_ | ((with_reducible show TkE (List.drop _ (List.flatMap Nd.cells _)) _ _ _); refine TkE.mk _ T1 rfl ?_) | ((with_reducible show ah (fa bC bs) _ _); refine ah.mk _ L1 ?_) | refine an.go _ _ ⟨.inl rfl, rfl, rfl, az _ _ _ _ _ _ rfl⟩ ?_ | refine rgE ?_ | refine Cd.mk rfl ?_ | refine Br.t ?_ | refine ah.mk _ rfl ?_ | ((with_reducible refine EqE.idW ?_); refine EqE.mk _ (aj (by omega) (by omega)) ?_) | ((with_reducible refine EqE.idS ?_); (refine EqE.fP ?_; (conv => whnf); fail_if_success (show ae _ _))) | refine Cd.ol ?_ | refine Cd.os ?_)
    all_goals exact ⟨i, ⟨i, (i : Int) - 1, rfl, rfl, by omega, rfl, by rw [hnx]; first | done | rfl⟩, by omega⟩
end Go.Ev.Ar
