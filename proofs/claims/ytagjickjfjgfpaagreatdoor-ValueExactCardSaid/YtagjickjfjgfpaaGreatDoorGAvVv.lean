/- Contracts of the given functions, on data. Conditions stand in each theorem. -/
import Derived.Test.YtagjickjfjgfpaaGreatDoorGEvR
import Derived.Test.YtagjickjfjgfpaaGreatDoorGAvVs
set_option linter.unusedSimpArgs false
set_option linter.unusedVariables false
namespace Go.Ev.Ar
open Go Go.Ev Go.Proofs
theorem ay {α : Type} (mv : List Nat) (f : α → List D) (xs : List α) : A.kls mv (fa f xs) = fa f xs := ad7 mv _
theorem bw (es : List Nd) (ds : List Int) : ∀ x ∈ [(1000000, false, [A.own 2000000 0 es.length 10]), (2000000, false, fa Nd.cells es), (1000001, false, fa iC ds)], A.a6 [1000000, 2000000, 1000001] x.2.2 = true := by
 intro x hx
 simp only [List.mem_cons, List.not_mem_nil, or_false] at hx
 rcases hx with rfl | rfl | rfl
 ·rfl
 ·exact A.dd _ _
 ·exact A.dd _ _
theorem vv (es : List Nd) (x y : Int) : (tmF es x y).1.length ≤ es.length + 1 ∧ es.length ≤ (tmF es x y).1.length := by
 unfold tmF adF; split <;> simp
theorem azn (es : List Nd) (x y k : Int) : (plF es x y k).1.length ≤ es.length + 2 ∧ es.length ≤ (plF es x y k).1.length := by
  unfold plF adF; split; · simp
  split; · simp
  split <;> simp
theorem aad (es : List Nd) (x : Nd) : (adF es x).1.length = es.length + 1 := by unfold adF; simp
def slF (es : List Nd) (at_ : Int) (n : Nd) (ds : List Int) : List Nd × Int :=
 let dA := ds.getD n.a.toNat 0
 let dB := ds.getD n.b.toNat 0
 if n.k = 1 then adF es (cN 1)
 else if n.k = 3 ∨ n.k = 4 then plF es dA dB n.k
 else if n.k = 5 then
  let t1 := tmF es dA n.b
  let t2 := tmF t1.1 n.a dB
  plF t2.1 t1.2 t2.2 3
 else if n.k = 6 then
  let t1 := tmF es dA n.b
  let t2 := tmF t1.1 n.a dB
  let u := plF t2.1 t1.2 t2.2 4
  if u.2 = -1 then (u.1, -1) else
   let t3 := tmF u.1 n.b n.b
   adF t3.1 ⟨6, u.2, t3.2, 0, RC.nil⟩
 else if dA = -1 then (es, -1)
 else if n.k = 7 then
  if n.n = 0 then (es, -1) else
   let l := adF es ⟨7, n.a, 0, n.n - 1, RC.nil⟩
   let c := adF l.1 (cN n.n)
   let t := tmF c.1 c.2 l.2
   tmF t.1 t.2 dA
 else if n.k = 8 then tmF es at_ dA
 else if n.k = 9 then
  let c := adF es ⟨10, n.a, 0, 0, RC.nil⟩
  tmF c.1 c.2 dA
 else
  let s := adF es ⟨9, n.a, 0, 0, RC.nil⟩
  let c := adF s.1 (cN (-1))
  let t := tmF c.1 c.2 s.2
  tmF t.1 t.2 dA
abbrev bS (es : List Nd) (ds : List Int) : Hp := [(1000000, false, [.own 2000000 0 es.length 10]), (2000000, false, fa Nd.cells es), (1000001, false, fa iC ds)]
abbrev BS (es : List Nd) (ds : List Int) (i : Int) (r : List Nd × Int) : Prop := jl Tryz.prog G0 108 [.ptr 1000000 0, .d (.int .i64 i), .own 1000001 0 ds.length 1] (bS es ds) (.d (.int .i64 r.2)) (bS r.1 ds)
theorem ta {ss : List Int} {a : Int} {d : Int} (h0 : 0 ≤ a) (h1 : a < ss.length) (h : ss.getD a.toNat 0 = d) : (fa iC ss)[0 + a.toNat * 1]? = some (.d (.int .i64 d)) := by
 rw [Nat.zero_add, Nat.mul_one, apt _ _ (by omega), h]
abbrev aph (es : List Nd) (x : Nd) (h : es.length < 10000) : BO 166 es [.d (.agg x.cells)] (adF es x) := aag es x h
set_option maxRecDepth 10000 in
set_option maxHeartbeats 16000000 in
theorem atq {es : List Nd} {ds : List Int} {i : Nat} {n : Nd} (he : es.length < 3000) (hi : i < es.length) (hx : es.getD i Nd.nil = n) (hkk : n.k = 1) (hk : 1 ≤ n.k ∧ n.k ≤ 10 ∧ n.k ≠ 2) (ha : 3 ≤ n.k → 0 ≤ n.a ∧ n.a < ds.length) (hb : 3 ≤ n.k → n.k ≤ 6 → 0 ≤ n.b ∧ n.b < ds.length) (hn : n.k = 7 → 0 ≤ n.n ∧ n.n ≤ 64) : BS es ds i (slF es i n ds) := by
 have T1 : ((fa Nd.cells es).drop (0 + (i : Int).toNat * 10)).take 10 = n.cells.map A.d := by rw [← hx]; exact w9 Nd.len Nd.nil es i hi
 obtain ⟨k, a, b, n', ⟨b1, l1, e1, c1, k1, f1⟩⟩ := n
 dsimp only at hk ha hb hn
 dsimp only at hkk
 subst hkk
 clear hx
 have e0 : slF es i ⟨1, a, b, n', ⟨b1, l1, e1, c1, k1, f1⟩⟩ ds = adF es (cN 1) := by
  unfold slF; dsimp only; rw [if_pos rfl]
 rw [e0]
 have s1 := ad1 es 1 (by omega) (by decide)
 obtain ⟨r1, hr1⟩ : ∃ r, adF es (cN 1) = r := ⟨_, rfl⟩
 rw [hr1] at s1 ⊢
 clear hr1 e0
 refine gi af Tryz.func108 rfl (by kernel_rfl) ⟨Nat.le_of_ble_eq_true rfl, Nat.le_of_ble_eq_true rfl⟩ rfl (bw _ _) rfl (bw _ _) ?_
 repeat' ((conv => whnf); first | refine ah.own (jr.au (s1) [(1000000, 1000000), (2000000, 2000000)] [] (.d (.int .i64 r1.2)) (bH r1.1) [] ?_) | ((with_reducible show TkE (fa Nd.cells es) _ _ _); refine TkE.mk _ T1 rfl ?_) | refine rgE ?_ | refine Cd.mk rfl ?_ | refine Br.t ?_ | refine ai.mk _ rfl ?_ | ((with_reducible refine EqE.idS ?_); (refine EqE.fP ?_; (conv => whnf); fail_if_success (show ae _ _))) | refine Cd.ol ?_ | refine Cd.os ?_)
 exact ft.own 6 rfl rfl (by first | rfl | (show [_, _, (1000001, false, A.kls _ (A.kls _ (fa iC ds)))] = _; rw [ay, ay]; first | done | rfl) | (show [_, _, (1000001, false, A.kls _ (fa iC ds))] = _; rw [ay]; first | done | rfl))
set_option maxRecDepth 10000 in
set_option maxHeartbeats 16000000 in
theorem atr {es : List Nd} {ds : List Int} {i : Nat} {n : Nd} (he : es.length < 3000) (hi : i < es.length) (hx : es.getD i Nd.nil = n) (hkk : n.k = 3) (hk : 1 ≤ n.k ∧ n.k ≤ 10 ∧ n.k ≠ 2) (ha : 3 ≤ n.k → 0 ≤ n.a ∧ n.a < ds.length) (hb : 3 ≤ n.k → n.k ≤ 6 → 0 ≤ n.b ∧ n.b < ds.length) (hn : n.k = 7 → 0 ≤ n.n ∧ n.n ≤ 64) : BS es ds i (slF es i n ds) := by
 have T1 : ((fa Nd.cells es).drop (0 + (i : Int).toNat * 10)).take 10 = n.cells.map A.d := by rw [← hx]; exact w9 Nd.len Nd.nil es i hi
 obtain ⟨k, a, b, n', ⟨b1, l1, e1, c1, k1, f1⟩⟩ := n
 dsimp only at hk ha hb hn
 dsimp only at hkk
 subst hkk
 clear hx
 obtain ⟨a0, a1⟩ := ha (by decide)
 obtain ⟨dA, hA⟩ : ∃ d, ds.getD a.toNat 0 = d := ⟨_, rfl⟩
 have LA := ta a0 a1 hA
 obtain ⟨b0, b1'⟩ := hb (by decide) (by decide)
 obtain ⟨dB, hB⟩ : ∃ d, ds.getD b.toNat 0 = d := ⟨_, rfl⟩
 have LB := ta b0 b1' hB
 have e0 : slF es i ⟨3, a, b, n', ⟨b1, l1, e1, c1, k1, f1⟩⟩ ds = plF es dA dB 3 := by
  unfold slF; dsimp only; rw [hA, hB, if_neg (show ¬ (3 : Int) = 1 by decide), if_pos (show (3 : Int) = 3 ∨ (3 : Int) = 4 by decide)]
 rw [e0]
 have s1 := ad2 es dA dB 3 (by omega)
 obtain ⟨r1, hr1⟩ : ∃ r, plF es dA dB 3 = r := ⟨_, rfl⟩
 rw [hr1] at s1 ⊢
 clear hr1 e0
 refine gi af Tryz.func108 rfl (by kernel_rfl) ⟨Nat.le_of_ble_eq_true rfl, Nat.le_of_ble_eq_true rfl⟩ rfl (bw _ _) rfl (bw _ _) ?_
 repeat' ((conv => whnf); first | refine dk.xk (C := ⟨[13], [], [1000000, 2000000], [2000000], []⟩) [(13, 164)] rfl rfl (by kernel_rfl) (by first | rfl | (simp only [kp, List.all_cons, List.all_nil, ay, j9, Bool.or_true, Bool.and_true]; first | done | rfl)) ?_ rfl | refine b8.mk (show Dw.mo _ _ _ _ = true by kernel_rfl) ?_ | ((with_reducible refine Br.dq ?hpp ?_); case hpp => first | omega | (dsimp only; omega)) | ((with_reducible show TkE (fa Nd.cells es) _ _ _); refine TkE.mk _ T1 rfl ?_) | ((with_reducible show ai (fa iC ds) (0 + Int.toNat a * _) _); refine ai.mk _ LA ?_) | ((with_reducible show ai (fa iC ds) (0 + Int.toNat b * _) _); refine ai.mk _ LB ?_) | refine eh.au (s1) [(1000000, 1000000), (2000000, 2000000)] [] (.d (.int .i64 r1.2)) (bH r1.1) ?_ | refine rgE ?_ | refine Cd.mk rfl ?_ | refine Br.t ?_ | refine ai.mk _ rfl ?_ | ((with_reducible refine EqE.idS ?_); (refine EqE.fP ?_; (conv => whnf); fail_if_success (show ae _ _))) | refine Cd.ol ?_ | refine Cd.os ?_)
 exact ft.own 6 rfl rfl (by first | rfl | (show [_, _, (1000001, false, A.kls _ (A.kls _ (fa iC ds)))] = _; rw [ay, ay]; first | done | rfl) | (show [_, _, (1000001, false, A.kls _ (fa iC ds))] = _; rw [ay]; first | done | rfl))
set_option maxRecDepth 10000 in
set_option maxHeartbeats 16000000 in
theorem ats {es : List Nd} {ds : List Int} {i : Nat} {n : Nd} (he : es.length < 3000) (hi : i < es.length) (hx : es.getD i Nd.nil = n) (hkk : n.k = 4) (hk : 1 ≤ n.k ∧ n.k ≤ 10 ∧ n.k ≠ 2) (ha : 3 ≤ n.k → 0 ≤ n.a ∧ n.a < ds.length) (hb : 3 ≤ n.k → n.k ≤ 6 → 0 ≤ n.b ∧ n.b < ds.length) (hn : n.k = 7 → 0 ≤ n.n ∧ n.n ≤ 64) : BS es ds i (slF es i n ds) := by
 have T1 : ((fa Nd.cells es).drop (0 + (i : Int).toNat * 10)).take 10 = n.cells.map A.d := by rw [← hx]; exact w9 Nd.len Nd.nil es i hi
 obtain ⟨k, a, b, n', ⟨b1, l1, e1, c1, k1, f1⟩⟩ := n
 dsimp only at hk ha hb hn
 dsimp only at hkk
 subst hkk
 clear hx
 obtain ⟨a0, a1⟩ := ha (by decide)
 obtain ⟨dA, hA⟩ : ∃ d, ds.getD a.toNat 0 = d := ⟨_, rfl⟩
 have LA := ta a0 a1 hA
 obtain ⟨b0, b1'⟩ := hb (by decide) (by decide)
 obtain ⟨dB, hB⟩ : ∃ d, ds.getD b.toNat 0 = d := ⟨_, rfl⟩
 have LB := ta b0 b1' hB
 have e0 : slF es i ⟨4, a, b, n', ⟨b1, l1, e1, c1, k1, f1⟩⟩ ds = plF es dA dB 4 := by
  unfold slF; dsimp only; rw [hA, hB, if_neg (show ¬ (4 : Int) = 1 by decide), if_pos (show (4 : Int) = 3 ∨ (4 : Int) = 4 by decide)]
 rw [e0]
 have s1 := ad2 es dA dB 4 (by omega)
 obtain ⟨r1, hr1⟩ : ∃ r, plF es dA dB 4 = r := ⟨_, rfl⟩
 rw [hr1] at s1 ⊢
 clear hr1 e0
 refine gi af Tryz.func108 rfl (by kernel_rfl) ⟨Nat.le_of_ble_eq_true rfl, Nat.le_of_ble_eq_true rfl⟩ rfl (bw _ _) rfl (bw _ _) ?_
 repeat' ((conv => whnf); first | refine dk.xk (C := ⟨[13], [], [1000000, 2000000], [2000000], []⟩) [(13, 164)] rfl rfl (by kernel_rfl) (by first | rfl | (simp only [kp, List.all_cons, List.all_nil, ay, j9, Bool.or_true, Bool.and_true]; first | done | rfl)) ?_ rfl | refine b8.mk (show Dw.mo _ _ _ _ = true by kernel_rfl) ?_ | ((with_reducible refine Br.dq ?hpp ?_); case hpp => first | omega | (dsimp only; omega)) | ((with_reducible show TkE (fa Nd.cells es) _ _ _); refine TkE.mk _ T1 rfl ?_) | ((with_reducible show ai (fa iC ds) (0 + Int.toNat a * _) _); refine ai.mk _ LA ?_) | ((with_reducible show ai (fa iC ds) (0 + Int.toNat b * _) _); refine ai.mk _ LB ?_) | refine eh.au (s1) [(1000000, 1000000), (2000000, 2000000)] [] (.d (.int .i64 r1.2)) (bH r1.1) ?_ | refine rgE ?_ | refine Cd.mk rfl ?_ | refine Br.t ?_ | refine ai.mk _ rfl ?_ | ((with_reducible refine EqE.idS ?_); (refine EqE.fP ?_; (conv => whnf); fail_if_success (show ae _ _))) | refine Cd.ol ?_ | refine Cd.os ?_)
 exact ft.own 6 rfl rfl (by first | rfl | (show [_, _, (1000001, false, A.kls _ (A.kls _ (fa iC ds)))] = _; rw [ay, ay]; first | done | rfl) | (show [_, _, (1000001, false, A.kls _ (fa iC ds))] = _; rw [ay]; first | done | rfl))
end Go.Ev.Ar

namespace Go.Ev.Ar
open Go Go.Ev Go.Proofs
set_option maxRecDepth 10000 in
set_option maxHeartbeats 16000000 in
theorem att {es : List Nd} {ds : List Int} {i : Nat} {n : Nd} (he : es.length < 3000) (hi : i < es.length) (hx : es.getD i Nd.nil = n) (hkk : n.k = 5) (hk : 1 ≤ n.k ∧ n.k ≤ 10 ∧ n.k ≠ 2) (ha : 3 ≤ n.k → 0 ≤ n.a ∧ n.a < ds.length) (hb : 3 ≤ n.k → n.k ≤ 6 → 0 ≤ n.b ∧ n.b < ds.length) (hn : n.k = 7 → 0 ≤ n.n ∧ n.n ≤ 64) : BS es ds i (slF es i n ds) := by
 have T1 : ((fa Nd.cells es).drop (0 + (i : Int).toNat * 10)).take 10 = n.cells.map A.d := by rw [← hx]; exact w9 Nd.len Nd.nil es i hi
 obtain ⟨k, a, b, n', ⟨b1, l1, e1, c1, k1, f1⟩⟩ := n
 dsimp only at hk ha hb hn
 dsimp only at hkk
 subst hkk
 clear hx
 obtain ⟨a0, a1⟩ := ha (by decide)
 obtain ⟨dA, hA⟩ : ∃ d, ds.getD a.toNat 0 = d := ⟨_, rfl⟩
 have LA := ta a0 a1 hA
 obtain ⟨b0, b1'⟩ := hb (by decide) (by decide)
 obtain ⟨dB, hB⟩ : ∃ d, ds.getD b.toNat 0 = d := ⟨_, rfl⟩
 have LB := ta b0 b1' hB
 have w1 := vv es dA b
 have s1 := mg es dA b (by omega)
 obtain ⟨r1, hr1⟩ : ∃ r, tmF es dA b = r := ⟨_, rfl⟩
 rw [hr1] at s1 w1
 have w2 := vv r1.1 a dB
 have s2 := mg r1.1 a dB (by omega)
 obtain ⟨r2, hr2⟩ : ∃ r, tmF r1.1 a dB = r := ⟨_, rfl⟩
 rw [hr2] at s2 w2
 have s3 := ad2 r2.1 r1.2 r2.2 3 (by omega)
 obtain ⟨r3, hr3⟩ : ∃ r, plF r2.1 r1.2 r2.2 3 = r := ⟨_, rfl⟩
 rw [hr3] at s3
 have e0 : slF es i ⟨5, a, b, n', ⟨b1, l1, e1, c1, k1, f1⟩⟩ ds = r3 := by
  unfold slF; dsimp only; rw [hA, hB, if_neg (show ¬ (5 : Int) = 1 by decide), if_neg (show ¬ ((5 : Int) = 3 ∨ (5 : Int) = 4) by decide), if_pos rfl, hr1, hr2, hr3]
 rw [e0]
 clear hr1 hr2 hr3 e0
 refine gi af Tryz.func108 rfl (by kernel_rfl) ⟨Nat.le_of_ble_eq_true rfl, Nat.le_of_ble_eq_true rfl⟩ rfl (bw _ _) rfl (bw _ _) ?_
 repeat' ((conv => whnf); first | refine dk.xk (C := ⟨[9, 18, 19], [11, 12, 14, 15, 16, 17], [1000000, 2000000], [2000000], []⟩) [(9, 165), (18, 165), (19, 164)] rfl rfl (by kernel_rfl) (by first | rfl | (simp only [kp, List.all_cons, List.all_nil, ay, j9, Bool.or_true, Bool.and_true]; first | done | rfl)) ?_ rfl | refine b8.mk (show Dw.mo _ _ _ _ = true by kernel_rfl) ?_ | ((with_reducible refine Br.dq ?hpp ?_); case hpp => first | omega | (dsimp only; omega)) | ((with_reducible show TkE (fa Nd.cells es) _ _ _); refine TkE.mk _ T1 rfl ?_) | ((with_reducible show ai (fa iC ds) (0 + Int.toNat a * _) _); refine ai.mk _ LA ?_) | ((with_reducible show ai (fa iC ds) (0 + Int.toNat b * _) _); refine ai.mk _ LB ?_) | refine eh.au (s1) [(1000000, 1000000), (2000000, 2000000)] [] (.d (.int .i64 r1.2)) (bH r1.1) ?_ | refine eh.au (s2) [(1000000, 1000000), (2000000, 2000000)] [] (.d (.int .i64 r2.2)) (bH r2.1) ?_ | refine eh.au (s3) [(1000000, 1000000), (2000000, 2000000)] [] (.d (.int .i64 r3.2)) (bH r3.1) ?_ | refine rgE ?_ | refine Cd.mk rfl ?_ | refine Br.t ?_ | refine ai.mk _ rfl ?_ | ((with_reducible refine EqE.idS ?_); (refine EqE.fP ?_; (conv => whnf); fail_if_success (show ae _ _))) | refine Cd.ol ?_ | refine Cd.os ?_)
 exact ft.own 6 rfl rfl (by first | rfl | (show [_, _, (1000001, false, A.kls _ (A.kls _ (fa iC ds)))] = _; rw [ay, ay]; first | done | rfl) | (show [_, _, (1000001, false, A.kls _ (fa iC ds))] = _; rw [ay]; first | done | rfl))
end Go.Ev.Ar

namespace Go.Ev.Ar
open Go Go.Ev Go.Proofs
set_option maxRecDepth 10000 in
set_option maxHeartbeats 16000000 in
theorem atu {es : List Nd} {ds : List Int} {i : Nat} {n : Nd} (he : es.length < 3000) (hi : i < es.length) (hx : es.getD i Nd.nil = n) (hkk : n.k = 6) (hk : 1 ≤ n.k ∧ n.k ≤ 10 ∧ n.k ≠ 2) (ha : 3 ≤ n.k → 0 ≤ n.a ∧ n.a < ds.length) (hb : 3 ≤ n.k → n.k ≤ 6 → 0 ≤ n.b ∧ n.b < ds.length) (hn : n.k = 7 → 0 ≤ n.n ∧ n.n ≤ 64) : BS es ds i (slF es i n ds) := by
 have T1 : ((fa Nd.cells es).drop (0 + (i : Int).toNat * 10)).take 10 = n.cells.map A.d := by rw [← hx]; exact w9 Nd.len Nd.nil es i hi
 obtain ⟨k, a, b, n', ⟨b1, l1, e1, c1, k1, f1⟩⟩ := n
 dsimp only at hk ha hb hn
 dsimp only at hkk
 subst hkk
 clear hx
 obtain ⟨a0, a1⟩ := ha (by decide)
 obtain ⟨dA, hA⟩ : ∃ d, ds.getD a.toNat 0 = d := ⟨_, rfl⟩
 have LA := ta a0 a1 hA
 obtain ⟨b0, b1'⟩ := hb (by decide) (by decide)
 obtain ⟨dB, hB⟩ : ∃ d, ds.getD b.toNat 0 = d := ⟨_, rfl⟩
 have LB := ta b0 b1' hB
 have w1 := vv es dA b
 have s1 := mg es dA b (by omega)
 obtain ⟨r1, hr1⟩ : ∃ r, tmF es dA b = r := ⟨_, rfl⟩
 rw [hr1] at s1 w1
 have w2 := vv r1.1 a dB
 have s2 := mg r1.1 a dB (by omega)
 obtain ⟨r2, hr2⟩ : ∃ r, tmF r1.1 a dB = r := ⟨_, rfl⟩
 rw [hr2] at s2 w2
 have w3 := azn r2.1 r1.2 r2.2 4
 have s3 := ad2 r2.1 r1.2 r2.2 4 (by omega)
 obtain ⟨r3, hr3⟩ : ∃ r, plF r2.1 r1.2 r2.2 4 = r := ⟨_, rfl⟩
 rw [hr3] at s3 w3
 by_cases z : r3.2 = -1
 ·have e0 : slF es i ⟨6, a, b, n', ⟨b1, l1, e1, c1, k1, f1⟩⟩ ds = (r3.1, -1) := by
   unfold slF; dsimp only; rw [hA, hB, if_neg (show ¬ (6 : Int) = 1 by decide), if_neg (show ¬ ((6 : Int) = 3 ∨ (6 : Int) = 4) by decide), if_neg (show ¬ (6 : Int) = 5 by decide), if_pos rfl, hr1, hr2, hr3, if_pos z]
  rw [e0]
  clear hr1 hr2 hr3 e0
  show jl _ _ _ _ _ (.d (.int .i64 (-1))) (bS r3.1 ds)
  refine gi af Tryz.func108 rfl (by kernel_rfl) ⟨Nat.le_of_ble_eq_true rfl, Nat.le_of_ble_eq_true rfl⟩ rfl (bw _ _) rfl (bw _ _) ?_
  repeat' ((conv => whnf); first | refine dk.xk (C := ⟨[9, 18, 19], [11, 12, 14, 15, 16, 17], [1000000, 2000000], [2000000], []⟩) [(9, 165), (18, 165), (19, 164)] rfl rfl (by kernel_rfl) (by first | rfl | (simp only [kp, List.all_cons, List.all_nil, ay, j9, Bool.or_true, Bool.and_true]; first | done | rfl)) ?_ rfl | refine b8.mk (show Dw.mo _ _ _ _ = true by kernel_rfl) ?_ | ((with_reducible refine Br.jm ?hpp ?_); case hpp => first | omega | (dsimp only; omega)) | ((with_reducible refine Br.dq ?hpp ?_); case hpp => first | omega | (dsimp only; omega)) | ((with_reducible show TkE (fa Nd.cells es) _ _ _); refine TkE.mk _ T1 rfl ?_) | ((with_reducible show ai (fa iC ds) (0 + Int.toNat a * _) _); refine ai.mk _ LA ?_) | ((with_reducible show ai (fa iC ds) (0 + Int.toNat b * _) _); refine ai.mk _ LB ?_) | refine eh.au (s1) [(1000000, 1000000), (2000000, 2000000)] [] (.d (.int .i64 r1.2)) (bH r1.1) ?_ | refine eh.au (s2) [(1000000, 1000000), (2000000, 2000000)] [] (.d (.int .i64 r2.2)) (bH r2.1) ?_ | refine eh.au (s3) [(1000000, 1000000), (2000000, 2000000)] [] (.d (.int .i64 r3.2)) (bH r3.1) ?_ | refine rgE ?_ | refine Cd.mk rfl ?_ | refine Br.t ?_ | refine ai.mk _ rfl ?_ | ((with_reducible refine EqE.idS ?_); (refine EqE.fP ?_; (conv => whnf); fail_if_success (show ae _ _))) | refine Cd.ol ?_ | refine Cd.os ?_)
  exact ft.own 6 rfl rfl (by first | rfl | (show [_, _, (1000001, false, A.kls _ (A.kls _ (fa iC ds)))] = _; rw [ay, ay]; first | done | rfl) | (show [_, _, (1000001, false, A.kls _ (fa iC ds))] = _; rw [ay]; first | done | rfl))
 ·have w4 := vv r3.1 b b
  have s4 := mg r3.1 b b (by omega)
  obtain ⟨r4, hr4⟩ : ∃ r, tmF r3.1 b b = r := ⟨_, rfl⟩
  rw [hr4] at s4 w4
  have s5 := aph r4.1 ⟨6, r3.2, r4.2, 0, RC.nil⟩ (by omega)
  obtain ⟨r5, hr5⟩ : ∃ r, adF r4.1 ⟨6, r3.2, r4.2, 0, RC.nil⟩ = r := ⟨_, rfl⟩
  rw [hr5] at s5
  have e0 : slF es i ⟨6, a, b, n', ⟨b1, l1, e1, c1, k1, f1⟩⟩ ds = r5 := by
   unfold slF; dsimp only; rw [hA, hB, if_neg (show ¬ (6 : Int) = 1 by decide), if_neg (show ¬ ((6 : Int) = 3 ∨ (6 : Int) = 4) by decide), if_neg (show ¬ (6 : Int) = 5 by decide), if_pos rfl, hr1, hr2, hr3, if_neg z, hr4, hr5]
  rw [e0]
  clear hr1 hr2 hr3 hr4 hr5 e0
  refine gi af Tryz.func108 rfl (by kernel_rfl) ⟨Nat.le_of_ble_eq_true rfl, Nat.le_of_ble_eq_true rfl⟩ rfl (bw _ _) rfl (bw _ _) ?_
  repeat' ((conv => whnf); first | refine ah.own (jr.au (s4) [(1000000, 1000000), (2000000, 2000000)] [] (.d (.int .i64 r4.2)) (bH r4.1) [] ?_) | refine ah.own (jr.au (s5) [(1000000, 1000000), (2000000, 2000000)] [] (.d (.int .i64 r5.2)) (bH r5.1) [] ?_) | refine dk.xk (C := ⟨[9, 18, 19], [11, 12, 14, 15, 16, 17], [1000000, 2000000], [2000000], []⟩) [(9, 165), (18, 165), (19, 164)] rfl rfl (by kernel_rfl) (by first | rfl | (simp only [kp, List.all_cons, List.all_nil, ay, j9, Bool.or_true, Bool.and_true]; first | done | rfl)) ?_ rfl | refine b8.mk (show Dw.mo _ _ _ _ = true by kernel_rfl) ?_ | ((with_reducible refine Br.dq ?hpp ?_); case hpp => first | omega | (dsimp only; omega)) | ((with_reducible show TkE (fa Nd.cells es) _ _ _); refine TkE.mk _ T1 rfl ?_) | ((with_reducible show ai (fa iC ds) (0 + Int.toNat a * _) _); refine ai.mk _ LA ?_) | ((with_reducible show ai (fa iC ds) (0 + Int.toNat b * _) _); refine ai.mk _ LB ?_) | refine eh.au (s1) [(1000000, 1000000), (2000000, 2000000)] [] (.d (.int .i64 r1.2)) (bH r1.1) ?_ | refine eh.au (s2) [(1000000, 1000000), (2000000, 2000000)] [] (.d (.int .i64 r2.2)) (bH r2.1) ?_ | refine eh.au (s3) [(1000000, 1000000), (2000000, 2000000)] [] (.d (.int .i64 r3.2)) (bH r3.1) ?_ | refine rgE ?_ | refine Cd.mk rfl ?_ | refine Br.t ?_ | refine ai.mk _ rfl ?_ | ((with_reducible refine EqE.idS ?_); (refine EqE.fP ?_; (conv => whnf); fail_if_success (show ae _ _))) | refine Cd.ol ?_ | refine Cd.os ?_)
  exact ft.own 6 rfl rfl (by first | rfl | (show [_, _, (1000001, false, A.kls _ (A.kls _ (fa iC ds)))] = _; rw [ay, ay]; first | done | rfl) | (show [_, _, (1000001, false, A.kls _ (fa iC ds))] = _; rw [ay]; first | done | rfl))
end Go.Ev.Ar

namespace Go.Ev.Ar
open Go Go.Ev Go.Proofs
set_option maxRecDepth 10000 in
set_option maxHeartbeats 16000000 in
theorem atv {es : List Nd} {ds : List Int} {i : Nat} {n : Nd} (he : es.length < 3000) (hi : i < es.length) (hx : es.getD i Nd.nil = n) (hkk : n.k = 7) (hk : 1 ≤ n.k ∧ n.k ≤ 10 ∧ n.k ≠ 2) (ha : 3 ≤ n.k → 0 ≤ n.a ∧ n.a < ds.length) (hb : 3 ≤ n.k → n.k ≤ 6 → 0 ≤ n.b ∧ n.b < ds.length) (hn : n.k = 7 → 0 ≤ n.n ∧ n.n ≤ 64) : BS es ds i (slF es i n ds) := by
 have T1 : ((fa Nd.cells es).drop (0 + (i : Int).toNat * 10)).take 10 = n.cells.map A.d := by rw [← hx]; exact w9 Nd.len Nd.nil es i hi
 obtain ⟨k, a, b, n', ⟨b1, l1, e1, c1, k1, f1⟩⟩ := n
 dsimp only at hk ha hb hn
 dsimp only at hkk
 subst hkk
 clear hx
 obtain ⟨a0, a1⟩ := ha (by decide)
 obtain ⟨dA, hA⟩ : ∃ d, ds.getD a.toNat 0 = d := ⟨_, rfl⟩
 have LA := ta a0 a1 hA
 have hn := hn rfl
 by_cases z : dA = -1
 ·have e0 : slF es i ⟨7, a, b, n', ⟨b1, l1, e1, c1, k1, f1⟩⟩ ds = (es, -1) := by
   unfold slF; dsimp only; rw [hA, if_neg (show ¬ (7 : Int) = 1 by decide), if_neg (show ¬ ((7 : Int) = 3 ∨ (7 : Int) = 4) by decide), if_neg (show ¬ (7 : Int) = 5 by decide), if_neg (show ¬ (7 : Int) = 6 by decide), if_pos z]
  rw [e0]
  clear e0
  show jl _ _ _ _ _ (.d (.int .i64 (-1))) (bS es ds)
  refine gi af Tryz.func108 rfl (by kernel_rfl) ⟨Nat.le_of_ble_eq_true rfl, Nat.le_of_ble_eq_true rfl⟩ rfl (bw _ _) rfl (bw _ _) ?_
  repeat' ((conv => whnf); first | ((with_reducible refine Br.jm ?hpp ?_); case hpp => first | omega | (dsimp only; omega)) | ((with_reducible refine Br.dq ?hpp ?_); case hpp => first | omega | (dsimp only; omega)) | ((with_reducible show TkE (fa Nd.cells es) _ _ _); refine TkE.mk _ T1 rfl ?_) | ((with_reducible show ai (fa iC ds) (0 + Int.toNat a * _) _); refine ai.mk _ LA ?_) | refine rgE ?_ | refine Cd.mk rfl ?_ | refine ai.mk _ rfl ?_ | ((with_reducible refine EqE.idS ?_); (refine EqE.fP ?_; (conv => whnf); fail_if_success (show ae _ _))) | refine Cd.ol ?_ | refine Cd.os ?_)
  exact ft.own 6 rfl rfl (by first | rfl | (show [_, _, (1000001, false, A.kls _ (A.kls _ (fa iC ds)))] = _; rw [ay, ay]; first | done | rfl) | (show [_, _, (1000001, false, A.kls _ (fa iC ds))] = _; rw [ay]; first | done | rfl))
 ·by_cases zn : n' = 0
  ·have e0 : slF es i ⟨7, a, b, n', ⟨b1, l1, e1, c1, k1, f1⟩⟩ ds = (es, -1) := by
    unfold slF; dsimp only; rw [hA, if_neg (show ¬ (7 : Int) = 1 by decide), if_neg (show ¬ ((7 : Int) = 3 ∨ (7 : Int) = 4) by decide), if_neg (show ¬ (7 : Int) = 5 by decide), if_neg (show ¬ (7 : Int) = 6 by decide), if_neg z, if_pos rfl, if_pos zn]
   rw [e0]
   clear e0
   show jl _ _ _ _ _ (.d (.int .i64 (-1))) (bS es ds)
   refine gi af Tryz.func108 rfl (by kernel_rfl) ⟨Nat.le_of_ble_eq_true rfl, Nat.le_of_ble_eq_true rfl⟩ rfl (bw _ _) rfl (bw _ _) ?_
   repeat' ((conv => whnf); first | ((with_reducible refine Br.jm ?hpp ?_); case hpp => first | omega | (dsimp only; omega)) | ((with_reducible refine Br.dq ?hpp ?_); case hpp => first | omega | (dsimp only; omega)) | ((with_reducible show TkE (fa Nd.cells es) _ _ _); refine TkE.mk _ T1 rfl ?_) | ((with_reducible show ai (fa iC ds) (0 + Int.toNat a * _) _); refine ai.mk _ LA ?_) | refine rgE ?_ | refine Cd.mk rfl ?_ | refine Br.t ?_ | refine ai.mk _ rfl ?_ | ((with_reducible refine EqE.idS ?_); (refine EqE.fP ?_; (conv => whnf); fail_if_success (show ae _ _))) | refine Cd.ol ?_ | refine Cd.os ?_)
   exact ft.own 6 rfl rfl (by first | rfl | (show [_, _, (1000001, false, A.kls _ (A.kls _ (fa iC ds)))] = _; rw [ay, ay]; first | done | rfl) | (show [_, _, (1000001, false, A.kls _ (fa iC ds))] = _; rw [ay]; first | done | rfl))
  ·have w1 := aad es ⟨7, a, 0, n' - 1, RC.nil⟩
   have s1 := aph es ⟨7, a, 0, n' - 1, RC.nil⟩ (by omega)
   obtain ⟨r1, hr1⟩ : ∃ r, adF es ⟨7, a, 0, n' - 1, RC.nil⟩ = r := ⟨_, rfl⟩
   rw [hr1] at s1 w1
   have w2 := aad r1.1 (cN n')
   have s2 := ad1 r1.1 n' (by omega) (by omega)
   obtain ⟨r2, hr2⟩ : ∃ r, adF r1.1 (cN n') = r := ⟨_, rfl⟩
   rw [hr2] at s2 w2
   have w3 := vv r2.1 r2.2 r1.2
   have s3 := mg r2.1 r2.2 r1.2 (by omega)
   obtain ⟨r3, hr3⟩ : ∃ r, tmF r2.1 r2.2 r1.2 = r := ⟨_, rfl⟩
   rw [hr3] at s3 w3
   have s4 := mg r3.1 r3.2 dA (by omega)
   obtain ⟨r4, hr4⟩ : ∃ r, tmF r3.1 r3.2 dA = r := ⟨_, rfl⟩
   rw [hr4] at s4
   have e0 : slF es i ⟨7, a, b, n', ⟨b1, l1, e1, c1, k1, f1⟩⟩ ds = r4 := by
    unfold slF; dsimp only; rw [hA, if_neg (show ¬ (7 : Int) = 1 by decide), if_neg (show ¬ ((7 : Int) = 3 ∨ (7 : Int) = 4) by decide), if_neg (show ¬ (7 : Int) = 5 by decide), if_neg (show ¬ (7 : Int) = 6 by decide), if_neg z, if_pos rfl, if_neg zn, hr1, hr2, hr3, hr4]
   rw [e0]
   clear hr1 hr2 hr3 hr4 e0
   refine gi af Tryz.func108 rfl (by kernel_rfl) ⟨Nat.le_of_ble_eq_true rfl, Nat.le_of_ble_eq_true rfl⟩ rfl (bw _ _) rfl (bw _ _) ?_
   repeat' ((conv => whnf); first | refine ah.own (jr.au (s1) [(1000000, 1000000), (2000000, 2000000)] [] (.d (.int .i64 r1.2)) (bH r1.1) [] ?_) | refine dk.xk (C := ⟨[5, 7, 13], [9, 10, 11, 12], [1000000, 2000000], [2000000], []⟩) [(5, 163), (7, 165), (13, 165)] rfl rfl (by kernel_rfl) (show kp _ [_, _, (7, false, _), (1000001, false, A.kls _ (fa iC ds))] = true by simp only [kp, List.all_cons, List.all_nil, ay, j9, Bool.or_true, Bool.and_true]; rfl) ?_ rfl | refine b8.mk (show Dw.mo _ _ _ _ = true by kernel_rfl) ?_ | ((with_reducible refine Br.dq ?hpp ?_); case hpp => first | omega | (dsimp only; omega)) | ((with_reducible show ai (A.kls _ _) _ _); rw [ay]) | ((with_reducible show TkE (fa Nd.cells es) _ _ _); refine TkE.mk _ T1 rfl ?_) | ((with_reducible show ai (fa iC ds) (0 + Int.toNat a * _) _); refine ai.mk _ LA ?_) | refine eh.au (s2) [(1000000, 1000000), (2000000, 2000000)] [] (.d (.int .i64 r2.2)) (bH r2.1) ?_ | refine eh.au (s3) [(1000000, 1000000), (2000000, 2000000)] [] (.d (.int .i64 r3.2)) (bH r3.1) ?_ | refine eh.au (s4) [(1000000, 1000000), (2000000, 2000000)] [] (.d (.int .i64 r4.2)) (bH r4.1) ?_ | refine rgE ?_ | refine Cd.mk rfl ?_ | refine Br.t ?_ | refine ai.mk _ rfl ?_ | ((with_reducible refine EqE.idW ?_); refine EqE.mk (n' - 1) (show IntKind.i64.wrap (n' - 1) = n' - 1 from ak (by omega) (by omega)) ?_) | ((with_reducible refine EqE.idS ?_); (refine EqE.fP ?_; (conv => whnf); fail_if_success (show ae _ _))) | refine Cd.ol ?_ | refine Cd.os ?_)
   exact ft.own 6 rfl rfl (by first | rfl | (show [_, _, (1000001, false, A.kls _ (A.kls _ (fa iC ds)))] = _; rw [ay, ay]; first | done | rfl) | (show [_, _, (1000001, false, A.kls _ (fa iC ds))] = _; rw [ay]; first | done | rfl))
end Go.Ev.Ar

namespace Go.Ev.Ar
open Go Go.Ev Go.Proofs
set_option maxRecDepth 10000 in
set_option maxHeartbeats 16000000 in
theorem atw {es : List Nd} {ds : List Int} {i : Nat} {n : Nd} (he : es.length < 3000) (hi : i < es.length) (hx : es.getD i Nd.nil = n) (hkk : n.k = 8) (hk : 1 ≤ n.k ∧ n.k ≤ 10 ∧ n.k ≠ 2) (ha : 3 ≤ n.k → 0 ≤ n.a ∧ n.a < ds.length) (hb : 3 ≤ n.k → n.k ≤ 6 → 0 ≤ n.b ∧ n.b < ds.length) (hn : n.k = 7 → 0 ≤ n.n ∧ n.n ≤ 64) : BS es ds i (slF es i n ds) := by
 have T1 : ((fa Nd.cells es).drop (0 + (i : Int).toNat * 10)).take 10 = n.cells.map A.d := by rw [← hx]; exact w9 Nd.len Nd.nil es i hi
 obtain ⟨k, a, b, n', ⟨b1, l1, e1, c1, k1, f1⟩⟩ := n
 dsimp only at hk ha hb hn
 dsimp only at hkk
 subst hkk
 clear hx
 obtain ⟨a0, a1⟩ := ha (by decide)
 obtain ⟨dA, hA⟩ : ∃ d, ds.getD a.toNat 0 = d := ⟨_, rfl⟩
 have LA := ta a0 a1 hA
 by_cases z : dA = -1
 ·have e0 : slF es i ⟨8, a, b, n', ⟨b1, l1, e1, c1, k1, f1⟩⟩ ds = (es, -1) := by
   unfold slF; dsimp only; rw [hA, if_neg (show ¬ (8 : Int) = 1 by decide), if_neg (show ¬ ((8 : Int) = 3 ∨ (8 : Int) = 4) by decide), if_neg (show ¬ (8 : Int) = 5 by decide), if_neg (show ¬ (8 : Int) = 6 by decide), if_pos z]
  rw [e0]
  clear e0
  show jl _ _ _ _ _ (.d (.int .i64 (-1))) (bS es ds)
  refine gi af Tryz.func108 rfl (by kernel_rfl) ⟨Nat.le_of_ble_eq_true rfl, Nat.le_of_ble_eq_true rfl⟩ rfl (bw _ _) rfl (bw _ _) ?_
  repeat' ((conv => whnf); first | ((with_reducible refine Br.jm ?hpp ?_); case hpp => first | omega | (dsimp only; omega)) | ((with_reducible refine Br.dq ?hpp ?_); case hpp => first | omega | (dsimp only; omega)) | ((with_reducible show TkE (fa Nd.cells es) _ _ _); refine TkE.mk _ T1 rfl ?_) | ((with_reducible show ai (fa iC ds) (0 + Int.toNat a * _) _); refine ai.mk _ LA ?_) | refine rgE ?_ | refine Cd.mk rfl ?_ | refine ai.mk _ rfl ?_ | ((with_reducible refine EqE.idS ?_); (refine EqE.fP ?_; (conv => whnf); fail_if_success (show ae _ _))) | refine Cd.ol ?_ | refine Cd.os ?_)
  exact ft.own 6 rfl rfl (by first | rfl | (show [_, _, (1000001, false, A.kls _ (A.kls _ (fa iC ds)))] = _; rw [ay, ay]; first | done | rfl) | (show [_, _, (1000001, false, A.kls _ (fa iC ds))] = _; rw [ay]; first | done | rfl))
 ·have s1 := mg es i dA (by omega)
  obtain ⟨r1, hr1⟩ : ∃ r, tmF es i dA = r := ⟨_, rfl⟩
  rw [hr1] at s1
  have e0 : slF es i ⟨8, a, b, n', ⟨b1, l1, e1, c1, k1, f1⟩⟩ ds = r1 := by
   unfold slF; dsimp only; rw [hA, if_neg (show ¬ (8 : Int) = 1 by decide), if_neg (show ¬ ((8 : Int) = 3 ∨ (8 : Int) = 4) by decide), if_neg (show ¬ (8 : Int) = 5 by decide), if_neg (show ¬ (8 : Int) = 6 by decide), if_neg z, if_neg (show ¬ (8 : Int) = 7 by decide), if_pos rfl, hr1]
  rw [e0]
  clear hr1 e0
  refine gi af Tryz.func108 rfl (by kernel_rfl) ⟨Nat.le_of_ble_eq_true rfl, Nat.le_of_ble_eq_true rfl⟩ rfl (bw _ _) rfl (bw _ _) ?_
  repeat' ((conv => whnf); first | refine ah.own (jr.au (s1) [(1000000, 1000000), (2000000, 2000000)] [] (.d (.int .i64 r1.2)) (bH r1.1) [] ?_) | ((with_reducible refine Br.dq ?hpp ?_); case hpp => first | omega | (dsimp only; omega)) | ((with_reducible show TkE (fa Nd.cells es) _ _ _); refine TkE.mk _ T1 rfl ?_) | ((with_reducible show ai (fa iC ds) (0 + Int.toNat a * _) _); refine ai.mk _ LA ?_) | refine rgE ?_ | refine Cd.mk rfl ?_ | refine Br.t ?_ | refine ai.mk _ rfl ?_ | ((with_reducible refine EqE.idS ?_); (refine EqE.fP ?_; (conv => whnf); fail_if_success (show ae _ _))) | refine Cd.ol ?_ | refine Cd.os ?_)
  exact ft.own 6 rfl rfl (by first | rfl | (show [_, _, (1000001, false, A.kls _ (A.kls _ (fa iC ds)))] = _; rw [ay, ay]; first | done | rfl) | (show [_, _, (1000001, false, A.kls _ (fa iC ds))] = _; rw [ay]; first | done | rfl))
end Go.Ev.Ar

namespace Go.Ev.Ar
open Go Go.Ev Go.Proofs
set_option maxRecDepth 10000 in
set_option maxHeartbeats 16000000 in
theorem atx {es : List Nd} {ds : List Int} {i : Nat} {n : Nd} (he : es.length < 3000) (hi : i < es.length) (hx : es.getD i Nd.nil = n) (hkk : n.k = 9) (hk : 1 ≤ n.k ∧ n.k ≤ 10 ∧ n.k ≠ 2) (ha : 3 ≤ n.k → 0 ≤ n.a ∧ n.a < ds.length) (hb : 3 ≤ n.k → n.k ≤ 6 → 0 ≤ n.b ∧ n.b < ds.length) (hn : n.k = 7 → 0 ≤ n.n ∧ n.n ≤ 64) : BS es ds i (slF es i n ds) := by
 have T1 : ((fa Nd.cells es).drop (0 + (i : Int).toNat * 10)).take 10 = n.cells.map A.d := by rw [← hx]; exact w9 Nd.len Nd.nil es i hi
 obtain ⟨k, a, b, n', ⟨b1, l1, e1, c1, k1, f1⟩⟩ := n
 dsimp only at hk ha hb hn
 dsimp only at hkk
 subst hkk
 clear hx
 obtain ⟨a0, a1⟩ := ha (by decide)
 obtain ⟨dA, hA⟩ : ∃ d, ds.getD a.toNat 0 = d := ⟨_, rfl⟩
 have LA := ta a0 a1 hA
 by_cases z : dA = -1
 ·have e0 : slF es i ⟨9, a, b, n', ⟨b1, l1, e1, c1, k1, f1⟩⟩ ds = (es, -1) := by
   unfold slF; dsimp only; rw [hA, if_neg (show ¬ (9 : Int) = 1 by decide), if_neg (show ¬ ((9 : Int) = 3 ∨ (9 : Int) = 4) by decide), if_neg (show ¬ (9 : Int) = 5 by decide), if_neg (show ¬ (9 : Int) = 6 by decide), if_pos z]
  rw [e0]
  clear e0
  show jl _ _ _ _ _ (.d (.int .i64 (-1))) (bS es ds)
  refine gi af Tryz.func108 rfl (by kernel_rfl) ⟨Nat.le_of_ble_eq_true rfl, Nat.le_of_ble_eq_true rfl⟩ rfl (bw _ _) rfl (bw _ _) ?_
  repeat' ((conv => whnf); first | ((with_reducible refine Br.jm ?hpp ?_); case hpp => first | omega | (dsimp only; omega)) | ((with_reducible refine Br.dq ?hpp ?_); case hpp => first | omega | (dsimp only; omega)) | ((with_reducible show TkE (fa Nd.cells es) _ _ _); refine TkE.mk _ T1 rfl ?_) | ((with_reducible show ai (fa iC ds) (0 + Int.toNat a * _) _); refine ai.mk _ LA ?_) | refine rgE ?_ | refine Cd.mk rfl ?_ | refine ai.mk _ rfl ?_ | ((with_reducible refine EqE.idS ?_); (refine EqE.fP ?_; (conv => whnf); fail_if_success (show ae _ _))) | refine Cd.ol ?_ | refine Cd.os ?_)
  exact ft.own 6 rfl rfl (by first | rfl | (show [_, _, (1000001, false, A.kls _ (A.kls _ (fa iC ds)))] = _; rw [ay, ay]; first | done | rfl) | (show [_, _, (1000001, false, A.kls _ (fa iC ds))] = _; rw [ay]; first | done | rfl))
 ·have w1 := aad es ⟨10, a, 0, 0, RC.nil⟩
  have s1 := aph es ⟨10, a, 0, 0, RC.nil⟩ (by omega)
  obtain ⟨r1, hr1⟩ : ∃ r, adF es ⟨10, a, 0, 0, RC.nil⟩ = r := ⟨_, rfl⟩
  rw [hr1] at s1 w1
  have s2 := mg r1.1 r1.2 dA (by omega)
  obtain ⟨r2, hr2⟩ : ∃ r, tmF r1.1 r1.2 dA = r := ⟨_, rfl⟩
  rw [hr2] at s2
  have e0 : slF es i ⟨9, a, b, n', ⟨b1, l1, e1, c1, k1, f1⟩⟩ ds = r2 := by
   unfold slF; dsimp only; rw [hA, if_neg (show ¬ (9 : Int) = 1 by decide), if_neg (show ¬ ((9 : Int) = 3 ∨ (9 : Int) = 4) by decide), if_neg (show ¬ (9 : Int) = 5 by decide), if_neg (show ¬ (9 : Int) = 6 by decide), if_neg z, if_neg (show ¬ (9 : Int) = 7 by decide), if_neg (show ¬ (9 : Int) = 8 by decide), if_pos rfl, hr1, hr2]
  rw [e0]
  clear hr1 hr2 e0
  refine gi af Tryz.func108 rfl (by kernel_rfl) ⟨Nat.le_of_ble_eq_true rfl, Nat.le_of_ble_eq_true rfl⟩ rfl (bw _ _) rfl (bw _ _) ?_
  repeat' ((conv => whnf); first | refine dk.xk (C := ⟨[5, 11], [7, 8, 9, 10], [1000000, 2000000], [2000000], []⟩) [(5, 166), (11, 165)] rfl rfl (by kernel_rfl) (by first | rfl | (simp only [kp, List.all_cons, List.all_nil, ay, j9, Bool.or_true, Bool.and_true]; first | done | rfl)) ?_ rfl | refine b8.mk (show Dw.mo _ _ _ _ = true by kernel_rfl) ?_ | ((with_reducible refine Br.dq ?hpp ?_); case hpp => first | omega | (dsimp only; omega)) | ((with_reducible show TkE (fa Nd.cells es) _ _ _); refine TkE.mk _ T1 rfl ?_) | ((with_reducible show ai (fa iC ds) (0 + Int.toNat a * _) _); refine ai.mk _ LA ?_) | refine eh.au (s1) [(1000000, 1000000), (2000000, 2000000)] [] (.d (.int .i64 r1.2)) (bH r1.1) ?_ | refine eh.au (s2) [(1000000, 1000000), (2000000, 2000000)] [] (.d (.int .i64 r2.2)) (bH r2.1) ?_ | refine rgE ?_ | refine Cd.mk rfl ?_ | refine Br.t ?_ | refine ai.mk _ rfl ?_ | ((with_reducible refine EqE.idS ?_); (refine EqE.fP ?_; (conv => whnf); fail_if_success (show ae _ _))) | refine Cd.ol ?_ | refine Cd.os ?_)
  exact ft.own 6 rfl rfl (by first | rfl | (show [_, _, (1000001, false, A.kls _ (A.kls _ (fa iC ds)))] = _; rw [ay, ay]; first | done | rfl) | (show [_, _, (1000001, false, A.kls _ (fa iC ds))] = _; rw [ay]; first | done | rfl))
end Go.Ev.Ar

namespace Go.Ev.Ar
open Go Go.Ev Go.Proofs
set_option maxRecDepth 10000 in
set_option maxHeartbeats 16000000 in
theorem arh {es : List Nd} {ds : List Int} {i : Nat} {n : Nd} (he : es.length < 3000) (hi : i < es.length) (hx : es.getD i Nd.nil = n) (hkk : n.k = 10) (hk : 1 ≤ n.k ∧ n.k ≤ 10 ∧ n.k ≠ 2) (ha : 3 ≤ n.k → 0 ≤ n.a ∧ n.a < ds.length) (hb : 3 ≤ n.k → n.k ≤ 6 → 0 ≤ n.b ∧ n.b < ds.length) (hn : n.k = 7 → 0 ≤ n.n ∧ n.n ≤ 64) : BS es ds i (slF es i n ds) := by
 have T1 : ((fa Nd.cells es).drop (0 + (i : Int).toNat * 10)).take 10 = n.cells.map A.d := by rw [← hx]; exact w9 Nd.len Nd.nil es i hi
 obtain ⟨k, a, b, n', ⟨b1, l1, e1, c1, k1, f1⟩⟩ := n
 dsimp only at hk ha hb hn
 dsimp only at hkk
 subst hkk
 clear hx
 obtain ⟨a0, a1⟩ := ha (by decide)
 obtain ⟨dA, hA⟩ : ∃ d, ds.getD a.toNat 0 = d := ⟨_, rfl⟩
 have LA := ta a0 a1 hA
 by_cases z : dA = -1
 ·have e0 : slF es i ⟨10, a, b, n', ⟨b1, l1, e1, c1, k1, f1⟩⟩ ds = (es, -1) := by
   unfold slF; dsimp only; rw [hA, if_neg (show ¬ (10 : Int) = 1 by decide), if_neg (show ¬ ((10 : Int) = 3 ∨ (10 : Int) = 4) by decide), if_neg (show ¬ (10 : Int) = 5 by decide), if_neg (show ¬ (10 : Int) = 6 by decide), if_pos z]
  rw [e0]
  clear e0
  show jl _ _ _ _ _ (.d (.int .i64 (-1))) (bS es ds)
  refine gi af Tryz.func108 rfl (by kernel_rfl) ⟨Nat.le_of_ble_eq_true rfl, Nat.le_of_ble_eq_true rfl⟩ rfl (bw _ _) rfl (bw _ _) ?_
  repeat' ((conv => whnf); first | ((with_reducible refine Br.jm ?hpp ?_); case hpp => first | omega | (dsimp only; omega)) | ((with_reducible refine Br.dq ?hpp ?_); case hpp => first | omega | (dsimp only; omega)) | ((with_reducible show TkE (fa Nd.cells es) _ _ _); refine TkE.mk _ T1 rfl ?_) | ((with_reducible show ai (fa iC ds) (0 + Int.toNat a * _) _); refine ai.mk _ LA ?_) | refine rgE ?_ | refine Cd.mk rfl ?_ | refine ai.mk _ rfl ?_ | ((with_reducible refine EqE.idS ?_); (refine EqE.fP ?_; (conv => whnf); fail_if_success (show ae _ _))) | refine Cd.ol ?_ | refine Cd.os ?_)
  exact ft.own 6 rfl rfl (by first | rfl | (show [_, _, (1000001, false, A.kls _ (A.kls _ (fa iC ds)))] = _; rw [ay, ay]; first | done | rfl) | (show [_, _, (1000001, false, A.kls _ (fa iC ds))] = _; rw [ay]; first | done | rfl))
 ·have w1 := aad es ⟨9, a, 0, 0, RC.nil⟩
  have s1 := aph es ⟨9, a, 0, 0, RC.nil⟩ (by omega)
  obtain ⟨r1, hr1⟩ : ∃ r, adF es ⟨9, a, 0, 0, RC.nil⟩ = r := ⟨_, rfl⟩
  rw [hr1] at s1 w1
  have w2 := aad r1.1 (cN (-1))
  have s2 := ad1 r1.1 (-1) (by omega) (by decide)
  obtain ⟨r2, hr2⟩ : ∃ r, adF r1.1 (cN (-1)) = r := ⟨_, rfl⟩
  rw [hr2] at s2 w2
  have w3 := vv r2.1 r2.2 r1.2
  have s3 := mg r2.1 r2.2 r1.2 (by omega)
  obtain ⟨r3, hr3⟩ : ∃ r, tmF r2.1 r2.2 r1.2 = r := ⟨_, rfl⟩
  rw [hr3] at s3 w3
  have s4 := mg r3.1 r3.2 dA (by omega)
  obtain ⟨r4, hr4⟩ : ∃ r, tmF r3.1 r3.2 dA = r := ⟨_, rfl⟩
  rw [hr4] at s4
  have e0 : slF es i ⟨10, a, b, n', ⟨b1, l1, e1, c1, k1, f1⟩⟩ ds = r4 := by
   unfold slF; dsimp only; rw [hA, if_neg (show ¬ (10 : Int) = 1 by decide), if_neg (show ¬ ((10 : Int) = 3 ∨ (10 : Int) = 4) by decide), if_neg (show ¬ (10 : Int) = 5 by decide), if_neg (show ¬ (10 : Int) = 6 by decide), if_neg z, if_neg (show ¬ (10 : Int) = 7 by decide), if_neg (show ¬ (10 : Int) = 8 by decide), if_neg (show ¬ (10 : Int) = 9 by decide), hr1, hr2, hr3, hr4]
  rw [e0]
  clear hr1 hr2 hr3 hr4 e0
  refine gi af Tryz.func108 rfl (by kernel_rfl) ⟨Nat.le_of_ble_eq_true rfl, Nat.le_of_ble_eq_true rfl⟩ rfl (bw _ _) rfl (bw _ _) ?_
  repeat' ((conv => whnf); first | refine ah.own (jr.au (s1) [(1000000, 1000000), (2000000, 2000000)] [] (.d (.int .i64 r1.2)) (bH r1.1) [] ?_) | refine dk.xk (C := ⟨[3, 5, 11], [7, 8, 9, 10], [1000000, 2000000], [2000000], []⟩) [(3, 163), (5, 165), (11, 165)] rfl rfl (by kernel_rfl) (show kp _ [_, _, (7, false, _), (1000001, false, A.kls _ (fa iC ds))] = true by simp only [kp, List.all_cons, List.all_nil, ay, j9, Bool.or_true, Bool.and_true]; rfl) ?_ rfl | refine b8.mk (show Dw.mo _ _ _ _ = true by kernel_rfl) ?_ | ((with_reducible refine Br.dq ?hpp ?_); case hpp => first | omega | (dsimp only; omega)) | ((with_reducible show ai (A.kls _ _) _ _); rw [ay]) | ((with_reducible show TkE (fa Nd.cells es) _ _ _); refine TkE.mk _ T1 rfl ?_) | ((with_reducible show ai (fa iC ds) (0 + Int.toNat a * _) _); refine ai.mk _ LA ?_) | refine eh.au (s2) [(1000000, 1000000), (2000000, 2000000)] [] (.d (.int .i64 r2.2)) (bH r2.1) ?_ | refine eh.au (s3) [(1000000, 1000000), (2000000, 2000000)] [] (.d (.int .i64 r3.2)) (bH r3.1) ?_ | refine eh.au (s4) [(1000000, 1000000), (2000000, 2000000)] [] (.d (.int .i64 r4.2)) (bH r4.1) ?_ | refine rgE ?_ | refine Cd.mk rfl ?_ | refine Br.t ?_ | refine ai.mk _ rfl ?_ | ((with_reducible refine EqE.idS ?_); (refine EqE.fP ?_; (conv => whnf); fail_if_success (show ae _ _))) | refine Cd.ol ?_ | refine Cd.os ?_)
  exact ft.own 6 rfl rfl (by first | rfl | (show [_, _, (1000001, false, A.kls _ (A.kls _ (fa iC ds)))] = _; rw [ay, ay]; first | done | rfl) | (show [_, _, (1000001, false, A.kls _ (fa iC ds))] = _; rw [ay]; first | done | rfl))
end Go.Ev.Ar

namespace Go.Ev.Ar
open Go Go.Ev Go.Proofs
theorem ax4 {es : List Nd} {ds : List Int} {i : Nat} {n : Nd} (he : es.length < 3000) (hi : i < es.length) (hx : es.getD i Nd.nil = n) (hk : 1 ≤ n.k ∧ n.k ≤ 10 ∧ n.k ≠ 2) (ha : 3 ≤ n.k → 0 ≤ n.a ∧ n.a < ds.length) (hb : 3 ≤ n.k → n.k ≤ 6 → 0 ≤ n.b ∧ n.b < ds.length) (hn : n.k = 7 → 0 ≤ n.n ∧ n.n ≤ 64) : BS es ds i (slF es i n ds) := by
 have kc : n.k = 1 ∨ n.k = 3 ∨ n.k = 4 ∨ n.k = 5 ∨ n.k = 6 ∨ n.k = 7 ∨ n.k = 8 ∨ n.k = 9 ∨ n.k = 10 := by omega
 rcases kc with h | h | h | h | h | h | h | h | h
 ·exact atq he hi hx h hk ha hb hn
 ·exact atr he hi hx h hk ha hb hn
 ·exact ats he hi hx h hk ha hb hn
 ·exact att he hi hx h hk ha hb hn
 ·exact atu he hi hx h hk ha hb hn
 ·exact atv he hi hx h hk ha hb hn
 ·exact atw he hi hx h hk ha hb hn
 ·exact atx he hi hx h hk ha hb hn
 ·exact arh he hi hx h hk ha hb hn
end Go.Ev.Ar

namespace Go.Ev.Ar
open Go Go.Ev Go.Proofs
def bC (b : Bool) : List D := [.bool b]
theorem aip (b : Bool) : (bC b).length = 1 := rfl
theorem a01 (n : Nat) : jv (n : Int).toNat (ow [.bool]) = fa bC (List.replicate n false) := by
 rw [Int.toNat_natCast]
 unfold fa jv
 induction n with
 | zero => rfl
 | succ n ih => rw [List.replicate_succ, List.replicate_succ, List.flatten_cons, List.flatMap_cons, List.map_append, ih]; rfl
theorem atm (ss : List Bool) (i : Nat) (h : i < ss.length) : (fa bC ss)[i]? = some (.d (.bool (ss.getD i false))) := by
 have e : ∀ ss : List Bool, fa bC ss = ss.map fun s => A.d (.bool s) := fun ss => by
  unfold fa
  clear h
  induction ss with
  | nil => rfl
  | cons s ss ih => rw [List.flatMap_cons, List.map_append, List.map_cons, ih]; rfl
 rw [e, List.getElem?_map, List.getElem?_eq_getElem h]; simp [h]
theorem a2l {ss : List Bool} {n : Nat} {a : Int} (hl : ss.length = n) (h0 : 0 ≤ a) (h1 : a < n) {v : Bool} (hv : ss.getD a.toNat false = v) : (fa bC ss)[0 + a.toNat * 1]? = some (.d (.bool v)) := by
 rw [Nat.zero_add, Nat.mul_one, atm _ _ (by omega), hv]
theorem ato {ss : List Bool} {n : Nat} {a : Int} (v : Bool) (hl : ss.length = n) (h0 : 0 ≤ a) (h1 : a < n) : setAt (fa bC ss) (0 + a.toNat * 1) [.d (.bool v)] = fa bC (ss.set a.toNat v) := by
 have := afg (f := bC) (k := 1) aip ss a.toNat v (by omega)
 rw [show ((a.toNat : Nat) : Int) = a by omega] at this; exact this
theorem atn {ss : List Bool} {n : Nat} {a : Int} (hl : ss.length = n) (h0 : 0 ≤ a) (h1 : a < n) : 0 + a.toNat * 1 + 1 ≤ (fa bC ss).length := by rw [nn aip]; omega
def akS (bs : List Bool) (i : Nat) (x : Nd) : List Bool :=
 if bs.getD i false = true ∧ 3 ≤ x.k then (if x.k ≤ 6 then (bs.set x.a.toNat true).set x.b.toNat true else bs.set x.a.toNat true) else bs
def akL (xs : List Nd) : Nat → List Bool
 | 0 => (List.replicate xs.length false).set (xs.length - 1) true
 | j + 1 => akS (akL xs j) (xs.length - 1 - j) (xs.getD (xs.length - 1 - j) Nd.nil)
theorem ax3 (bs : List Bool) (i : Nat) (x : Nd) : (akS bs i x).length = bs.length := by
 unfold akS; split
 ·split <;> simp
 ·rfl
theorem ad0 (xs : List Nd) : ∀ j, (akL xs j).length = xs.length
 | 0 => by simp [akL]
 | j + 1 => by rw [akL, ax3, ad0 xs j]
def bsl (bs : List Bool) (n : Nat) : D := .slice n (bs.flatMap bC)
set_option maxRecDepth 10000 in
set_option maxHeartbeats 8000000 in
theorem ard (xs : List Nd) (n0 : 0 < xs.length) (hn : xs.length ≤ 45) (hx : ∀ i, i < xs.length → 3 ≤ (xs.getD i Nd.nil).k → (0 ≤ (xs.getD i Nd.nil).a ∧ (xs.getD i Nd.nil).a < xs.length) ∧ ((xs.getD i Nd.nil).k ≤ 6 → 0 ≤ (xs.getD i Nd.nil).b ∧ (xs.getD i Nd.nil).b < xs.length)) : Sim Tryz.prog G0 false 107 [nsl xs] (bsl (akL xs xs.length) xs.length) := by
 have S0 := ato (ss := List.replicate xs.length false) (n := xs.length) (a := (xs.length : Int) - 1) true (by simp) (by omega) (by omega)
 have E0 := atn (ss := List.replicate xs.length false) (n := xs.length) (a := (xs.length : Int) - 1) (by simp) (by omega) (by omega)
 refine an af Tryz.func107 ?_
 repeat' ((conv => whnf); first | refine EqE.mk _ (a01 xs.length) ?_ | refine Cd.mk E0 ?_ | refine rgE ?_ | refine Cd.mk rfl ?_ | ((with_reducible refine EqE.idW ?_); refine EqE.mk ((xs.length : Int) - 1) (ak (by omega) (by omega)) ?_) | ((with_reducible refine EqE.idS ?_); ((with_reducible show EqE (setAt (fa bC _) _ _) _); refine EqE.mk _ S0 ?_)) | refine Cd.os ?_)
 refine ⟨[], [0, 3, 4], [8], fun m ys h => ∃ (i : Nat) (v : Int), m = i ∧ v = (i : Int) - 1 ∧ i ≤ xs.length ∧
   ys = [.d (nsl xs), .own 8 0 xs.length 1, .d (.int .i64 v)] ∧ h = [(8, false, fa bC (akL xs (xs.length - i)))],
  ⟨_, _, _, ⟨.inl rfl, rfl, rfl, az _ _ _ _ _ _ rfl⟩, xs.length, _, rfl, rfl, by omega, rfl, by rw [Nat.sub_self, akL, show ((xs.length : Int) - 1).toNat = xs.length - 1 by omega]; rfl⟩, ?_⟩
 rintro i ys h ⟨j, v, rfl, hv, hi, rfl, rfl⟩
 rcases i with _ | i
 ·subst hv
  rw [Nat.sub_zero]
  repeat' ((conv => whnf); first | ((with_reducible refine Br.dq ?hpp ?_); case hpp => first | omega | (dsimp only; omega)) | ((with_reducible show DsE (fa bC _) _); refine DsE.mk ((akL xs xs.length).flatMap bC) rfl ?_) | refine rgE ?_ | refine Cd.mk rfl ?_ | refine Res.mk ?_ | ((with_reducible refine EqE.idL ?_); refine EqE.mk _ rfl ?_))
  show D.slice _ _ = D.slice _ _
  rw [List.drop_zero, List.take_of_length_le (by rw [ab2 aip, ad0]; omega)]
 ·obtain rfl : v = (i : Int) := by omega
  clear hv
  have hlt : i < xs.length := by omega
  have hnx : akL xs (xs.length - i) = akS (akL xs (xs.length - (i + 1))) i (xs.getD i Nd.nil) := by
   rw [show xs.length - i = (xs.length - (i + 1)) + 1 by omega, akL, show xs.length - 1 - (xs.length - (i + 1)) = i by omega]
  have hbl := ad0 xs (xs.length - (i + 1))
  have hxi := hx i hlt
  have T1 := di xs i hlt
  generalize akL xs (xs.length - (i + 1)) = bs at *
  generalize xs.getD i Nd.nil = x at *
  obtain ⟨k, a, b, n', ⟨b1, l1, e1, c1, k1, f1⟩⟩ := x
  dsimp only at hxi
  obtain ⟨t, ht⟩ : ∃ t, bs.getD i false = t := ⟨_, rfl⟩
  have L1 : (fa bC bs)[0 + ((i : Nat) : Int).toNat * 1]? = some (.d (.bool t)) := a2l (a := (i : Int)) hbl (by omega) (by omega) (by rw [Int.toNat_natCast]; exact ht)
  unfold akS at hnx
  dsimp only at hnx
  rw [ht] at hnx
  cases t
  ·rw [if_neg (by simp)] at hnx
   repeat' ((conv => whnf); first | ((with_reducible refine Br.jm ?hpp ?_); case hpp => first | omega | (dsimp only; omega)) | refine Cd.mk (bj xs _ (by omega)) ?_ | ((with_reducible show TkE (List.drop _ (List.flatMap Nd.cells _)) _ _ _); refine TkE.mk _ T1 rfl ?_) | ((with_reducible show ai (fa bC bs) _ _); refine ai.mk _ L1 ?_) | refine ao.go _ _ ⟨.inl rfl, rfl, rfl, az _ _ _ _ _ _ rfl⟩ ?_ | refine rgE ?_ | refine Cd.mk rfl ?_ | refine Br.f ?_ | ((with_reducible refine EqE.idW ?_); refine EqE.mk _ (ak (by omega) (by omega)) ?_) | ((with_reducible refine EqE.idS ?_); (refine EqE.fP ?_; (conv => whnf); fail_if_success (show ae _ _))) | refine Cd.ol ?_ | refine Cd.os ?_)
   all_goals exact ⟨i, ⟨i, (i : Int) - 1, rfl, rfl, by omega, rfl, by rw [hnx]; first | done | rfl⟩, by omega⟩
  ·by_cases k3 : 3 ≤ k
   ·obtain ⟨⟨a0, a1⟩, hbb⟩ := hxi k3
    have S1 := ato (a := a) true hbl a0 a1
    have E1 := atn (a := a) hbl a0 a1
    have hbl2 : (bs.set a.toNat true).length = xs.length := by simp [hbl]
    by_cases k6 : k ≤ 6
    ·obtain ⟨b0, b2⟩ := hbb k6
     have S2 := ato (a := b) true hbl2 b0 b2
     have E2 := atn (a := b) hbl2 b0 b2
     rw [if_pos ⟨rfl, k3⟩, if_pos k6] at hnx
     repeat' ((conv => whnf); first | ((with_reducible refine Br.jm ?hpp ?_); case hpp => first | omega | (dsimp only; omega)) | refine Cd.mk (bj xs _ (by omega)) ?_ | ((with_reducible show TkE (List.drop _ (List.flatMap Nd.cells _)) _ _ _); refine TkE.mk _ T1 rfl ?_) | ((with_reducible show ai (fa bC bs) _ _); refine ai.mk _ L1 ?_) | refine Cd.mk E1 ?_ | refine Cd.mk E2 ?_ | refine ao.go _ _ ⟨.inl rfl, rfl, rfl, az _ _ _ _ _ _ rfl⟩ ?_ | refine rgE ?_ | refine Cd.mk rfl ?_ | refine Br.t ?_ | refine ai.mk _ rfl ?_ | ((with_reducible refine EqE.idW ?_); refine EqE.mk _ (ak (by omega) (by omega)) ?_) | ((with_reducible refine EqE.idS ?_); first | ((with_reducible show EqE (setAt (fa bC bs) _ _) _); refine EqE.mk _ S1 ?_) | ((with_reducible show EqE (setAt (fa bC (List.set bs _ _)) _ _) _); refine EqE.mk _ S2 ?_) | (refine EqE.fP ?_; (conv => whnf); fail_if_success (show ae _ _))) | refine Cd.ol ?_ | refine Cd.os ?_)
     all_goals exact ⟨i, ⟨i, (i : Int) - 1, rfl, rfl, by omega, rfl, by rw [hnx]; first | done | rfl⟩, by omega⟩
    ·rw [if_pos ⟨rfl, k3⟩, if_neg k6] at hnx
     repeat' ((conv => whnf); first | ((with_reducible refine Br.jm ?hpp ?_); case hpp => first | omega | (dsimp only; omega)) | ((with_reducible refine Br.dq ?hpp ?_); case hpp => first | omega | (dsimp only; omega)) | refine Cd.mk (bj xs _ (by omega)) ?_ | ((with_reducible show TkE (List.drop _ (List.flatMap Nd.cells _)) _ _ _); refine TkE.mk _ T1 rfl ?_) | ((with_reducible show ai (fa bC bs) _ _); refine ai.mk _ L1 ?_) | refine Cd.mk E1 ?_ | refine ao.go _ _ ⟨.inl rfl, rfl, rfl, az _ _ _ _ _ _ rfl⟩ ?_ | refine rgE ?_ | refine Cd.mk rfl ?_ | refine Br.t ?_ | refine ai.mk _ rfl ?_ | ((with_reducible refine EqE.idW ?_); refine EqE.mk _ (ak (by omega) (by omega)) ?_) | ((with_reducible refine EqE.idS ?_); first | ((with_reducible show EqE (setAt (fa bC bs) _ _) _); refine EqE.mk _ S1 ?_) | (refine EqE.fP ?_; (conv => whnf); fail_if_success (show ae _ _))) | refine Cd.ol ?_ | refine Cd.os ?_)
     all_goals exact ⟨i, ⟨i, (i : Int) - 1, rfl, rfl, by omega, rfl, by rw [hnx]; first | done | rfl⟩, by omega⟩
   ·rw [if_neg (fun h => k3 h.2)] at hnx
    repeat' ((conv => whnf); first | ((with_reducible refine Br.jm ?hpp ?_); case hpp => first | omega | (dsimp only; omega)) | ((with_reducible refine Br.dq ?hpp ?_); case hpp => first | omega | (dsimp only; omega)) | refine Cd.mk (bj xs _ (by omega)) ?_ | ((with_reducible show TkE (List.drop _ (List.flatMap Nd.cells _)) _ _ _); refine TkE.mk _ T1 rfl ?_) | ((with_reducible show ai (fa bC bs) _ _); refine ai.mk _ L1 ?_) | refine ao.go _ _ ⟨.inl rfl, rfl, rfl, az _ _ _ _ _ _ rfl⟩ ?_ | refine rgE ?_ | refine Cd.mk rfl ?_ | refine Br.t ?_ | refine ai.mk _ rfl ?_ | ((with_reducible refine EqE.idW ?_); refine EqE.mk _ (ak (by omega) (by omega)) ?_) | ((with_reducible refine EqE.idS ?_); (refine EqE.fP ?_; (conv => whnf); fail_if_success (show ae _ _))) | refine Cd.ol ?_ | refine Cd.os ?_)
    all_goals exact ⟨i, ⟨i, (i : Int) - 1, rfl, rfl, by omega, rfl, by rw [hnx]; first | done | rfl⟩, by omega⟩
end Go.Ev.Ar

namespace Go.Ev.Ar
open Go Go.Ev Go.Proofs
def Few (x : Nd) : Prop := x.r.l.length < 2^32 ∧ x.r.k.length < 2^32
def da (es : List Nd) (r : List Nd × Int) (m : Nat) : Prop := (∃ t, r.1 = es ++ t ∧ t.length ≤ m ∧ ∀ x ∈ t, Few x) ∧ -1 ≤ r.2 ∧ r.2 < r.1.length
theorem n9 (k a b n : Int) : Few ⟨k, a, b, n, RC.nil⟩ := ⟨show (0 : Nat) < 2^32 by decide, show (0 : Nat) < 2^32 by decide⟩
theorem da.len {es : List Nd} {r : List Nd × Int} {m : Nat} (h : da es r m) : es.length ≤ r.1.length ∧ r.1.length ≤ es.length + m := by
 obtain ⟨⟨t, e, l, _⟩, _⟩ := h; rw [e, List.length_append]; omega
theorem da.ad (es : List Nd) {x : Nd} (h : Few x) : da es (adF es x) 1 := ⟨⟨[x], rfl, by simp, by simpa using h⟩, by unfold adF; dsimp only; omega, by unfold adF; simp; omega⟩
theorem da.non (es : List Nd) : da es (es, -1) 0 := ⟨⟨[], by simp, by simp, by simp⟩, by simp, by dsimp only; omega⟩
theorem da.trans {es : List Nd} {r s : List Nd × Int} {m k : Nat} (h : da es r m) (g : da r.1 s k) : da es s (m + k) := by
 obtain ⟨⟨t, e, l, f⟩, _⟩ := h
 obtain ⟨⟨u, e', l', f'⟩, g1, g2⟩ := g
 refine ⟨⟨t ++ u, by rw [e', e, List.append_assoc], by rw [List.length_append]; omega, fun x hx => ?_⟩, g1, g2⟩
 rcases List.mem_append.1 hx with h | h
 ·exact f x h
 ·exact f' x h
theorem da.mono {es : List Nd} {r : List Nd × Int} {m k : Nat} (h : da es r m) (g : m ≤ k) : da es r k := by
 obtain ⟨⟨t, e, l, f⟩, r⟩ := h; exact ⟨⟨t, e, by omega, f⟩, r⟩
theorem da.tm (es : List Nd) (x y : Int) : da es (tmF es x y) 1 := by
 unfold tmF; split
 ·exact (da.non es).mono (by omega)
 ·exact da.ad es (n9 ..)
theorem da.at {es : List Nd} {x : Int} (h : -1 ≤ x ∧ x < es.length) : da es (es, x) 0 := ⟨⟨[], by simp, by simp, by simp⟩, h⟩
theorem da.pl (h0 : Few (cN 0)) (es : List Nd) (x y k : Int) (hx : -1 ≤ x ∧ x < es.length) (hy : -1 ≤ y ∧ y < es.length) : da es (plF es x y k) 2 := by
 unfold plF; split
 ·exact (da.at hx).mono (by omega)
 ·split
  ·exact (da.at hy).mono (by omega)
  ·split
   ·exact (da.ad es h0).trans (da.ad (es ++ [cN 0]) (n9 ..))
   ·exact (da.ad es (n9 ..)).mono (by omega)
theorem da.slF (hc : ∀ n : Int, -1 ≤ n → n ≤ 64 → Few (cN n)) {es : List Nd} {i : Int} {n : Nd} {ds : List Int} (hn : n.k = 7 → 0 ≤ n.n ∧ n.n ≤ 64) (hd : ∀ j, -1 ≤ ds.getD j 0 ∧ ds.getD j 0 < es.length) : da es (slF es i n ds) 12 := by
 have c0 := hc 0 (by decide) (by decide)
 unfold Ar.slF
 dsimp only
 have hA := hd n.a.toNat
 have hB := hd n.b.toNat
 generalize ds.getD n.a.toNat 0 = dA at *
 generalize ds.getD n.b.toNat 0 = dB at *
 split
 ·exact (da.ad es (hc 1 (by decide) (by decide))).mono (by omega)
 split
 ·exact (da.pl c0 es _ _ _ hA hB).mono (by omega)
 split
 ·have g1 := da.tm es dA n.b
  have g2 := da.tm (tmF es dA n.b).1 n.a dB
  have l1 := g1.len; have l2 := g2.len
  have g3 := da.pl c0 (tmF (tmF es dA n.b).1 n.a dB).1 (tmF es dA n.b).2 (tmF (tmF es dA n.b).1 n.a dB).2 3 ⟨g1.2.1, by have := g1.2.2; omega⟩ g2.2
  exact (g1.trans (g2.trans g3)).mono (by omega)
 split
 ·have g1 := da.tm es dA n.b
  have g2 := da.tm (tmF es dA n.b).1 n.a dB
  have l1 := g1.len; have l2 := g2.len
  have g3 := da.pl c0 (tmF (tmF es dA n.b).1 n.a dB).1 (tmF es dA n.b).2 (tmF (tmF es dA n.b).1 n.a dB).2 4 ⟨g1.2.1, by have := g1.2.2; omega⟩ g2.2
  have g4 := g1.trans (g2.trans g3)
  generalize plF (tmF (tmF es dA n.b).1 n.a dB).1 (tmF es dA n.b).2 (tmF (tmF es dA n.b).1 n.a dB).2 4 = u at *
  split
  ·exact (g4.trans ((da.non u.1))).mono (by omega)
  ·exact (g4.trans ((da.tm u.1 n.b n.b).trans (da.ad _ (n9 ..)))).mono (by omega)
 split
 ·exact (da.non es).mono (by omega)
 split
 ·rename_i h7
  have hn := hn h7
  split
  ·exact (da.non es).mono (by omega)
  ·exact ((da.ad es (n9 ..)).trans ((da.ad _ (hc n.n (by omega) (by omega))).trans ((da.tm _ _ _).trans (da.tm _ _ _)))).mono (by omega)
 split
 ·exact (da.tm es _ _).mono (by omega)
 split
 ·exact ((da.ad es (n9 ..)).trans (da.tm _ _ _)).mono (by omega)
 ·exact ((da.ad es (n9 ..)).trans ((da.ad _ (hc (-1) (by decide) (by decide))).trans ((da.tm _ _ _).trans (da.tm _ _ _)))).mono (by omega)
theorem azm (m : Nat) : (ofN m).length ≤ m := by
 induction m using Nat.strongRecOn with
 | ind m ih =>
  by_cases h : m = 0
  ·subst h; rw [bh]; exact Nat.le_refl 0
  ·rw [yl h, List.length_cons]
   have := ih (m / 4294967296) (by omega)
   omega
theorem a09 (n : Int) (h1 : -1 ≤ n) (h2 : n ≤ 64) : Few (cN n) := by
 refine ⟨?_, show (0 : Nat) < 2^32 by decide⟩
 show (ofN (aj (dof n 0)).natAbs).length < 2^32
 have := azm (aj (dof n 0)).natAbs
 by_cases h0 : n = 0
 ·rw [h0, wz, x9] at this ⊢
  have e : (0 : Int).natAbs = 0 := rfl
  omega
 ·have g := (nk (m := n) 0 h0).2.1
  have := Nat.div_le_self n.natAbs (2 ^ tzn n.natAbs)
  omega
def slS (s : List Nd × List Int) (i : Nat) (x : Nd) (ask : Bool) : List Nd × List Int :=
 if ask = true ∧ x.k ≠ 2 then ((slF s.1 i x (s.2.set i (-1))).1, (s.2.set i (-1)).set i (slF s.1 i x (s.2.set i (-1))).2) else (s.1, s.2.set i (-1))
def slL (xs : List Nd) : Nat → List Nd × List Int
 | 0 => (xs, List.replicate xs.length 0)
 | i + 1 => slS (slL xs i) i (xs.getD i Nd.nil) ((akL xs xs.length).getD i false)
structure SI (xs : List Nd) (i : Nat) (s : List Nd × List Int) : Prop where
 pre : ∃ t, s.1 = xs ++ t
 len : s.1.length ≤ xs.length + 12 * i
 few : ∀ x ∈ s.1, Few x
 dl : s.2.length = xs.length
 rng : ∀ j, -1 ≤ s.2.getD j 0 ∧ s.2.getD j 0 < s.1.length
theorem aq3 {ds : List Int} {i : Nat} {v : Int} {m : Nat} (h : ∀ j, -1 ≤ ds.getD j 0 ∧ ds.getD j 0 < m) (hv : -1 ≤ v ∧ v < m) : ∀ j, -1 ≤ (ds.set i v).getD j 0 ∧ (ds.set i v).getD j 0 < m := by
 intro j
 have := h j
 rw [List.getD_eq_getElem?_getD, List.getElem?_set] at *
 split
 ·split
  ·simpa using hv
  ·rename_i e g
   subst e
   rw [List.getElem?_eq_none (by omega)] at this
   exact this
 ·exact this
theorem SI.step (hc : ∀ n : Int, -1 ≤ n → n ≤ 64 → Few (cN n)) {xs : List Nd} {i : Nat} {s : List Nd × List Int} (h : SI xs i s) (x : Nd) (ask : Bool) (hn : x.k = 7 → 0 ≤ x.n ∧ x.n ≤ 64) : SI xs (i + 1) (slS s i x ask) := by
 unfold slS
 have r1 := aq3 (i := i) (v := -1) h.rng (by omega)
 split
 ·have g := da.slF hc (i := i) hn r1
  have l := g.len
  obtain ⟨⟨t, e, tl, tf⟩, g2⟩ := g
  generalize slF s.1 i x (s.2.set i (-1)) = r at *
  obtain ⟨t0, e0⟩ := h.pre
  refine ⟨⟨t0 ++ t, by dsimp only; rw [e, e0, List.append_assoc]⟩, by have := h.len; dsimp only; omega, fun y hy => ?_, by simp [h.dl], ?_⟩
  ·dsimp only at hy; rw [e] at hy
   rcases List.mem_append.1 hy with q | q
   ·exact h.few y q
   ·exact tf y q
  ·exact aq3 (m := r.1.length) (ds := s.2.set i (-1)) (fun j => ⟨(r1 j).1, by have := (r1 j).2; omega⟩) g2
 ·exact ⟨h.pre, by have := h.len; dsimp only; omega, h.few, by simp [h.dl], r1⟩
theorem SI.all (hc : ∀ n : Int, -1 ≤ n → n ≤ 64 → Few (cN n)) {xs : List Nd} (n0 : 0 < xs.length) (hf : ∀ x ∈ xs, Few x) (hn : ∀ i, i < xs.length → (xs.getD i Nd.nil).k = 7 → 0 ≤ (xs.getD i Nd.nil).n ∧ (xs.getD i Nd.nil).n ≤ 64) : ∀ i, i ≤ xs.length → SI xs i (slL xs i)
 | 0, _ => ⟨⟨[], by simp [slL]⟩, by simp [slL], hf, by simp [slL], fun j => by
   have : (List.replicate xs.length (0 : Int)).getD j 0 = 0 := by
    rw [List.getD_eq_getElem?_getD, List.getElem?_replicate]; split <;> rfl
   rw [show (slL xs 0).2 = List.replicate xs.length 0 from rfl, this, show (slL xs 0).1 = xs from rfl]; omega⟩
 | i + 1, h => (SI.all hc n0 hf hn i (by omega)).step hc _ _ (hn i (by omega))
end Go.Ev.Ar
