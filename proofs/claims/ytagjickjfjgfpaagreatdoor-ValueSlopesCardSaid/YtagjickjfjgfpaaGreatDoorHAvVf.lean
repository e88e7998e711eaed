/- Contracts of the given functions, on data. Conditions stand in each theorem. -/
import Derived.Test.YtagjickjfjgfpaaGreatDoorHEvR
import Derived.Test.YtagjickjfjgfpaaGreatDoorHEvEc
import Derived.Test.YtagjickjfjgfpaaGreatDoorHAvQuot
set_option linter.unusedSimpArgs false
set_option linter.unusedVariables false
namespace Go.Ev.Ar
open Go Go.Ev Go.Proofs
theorem an1 (b : Bool) (l : List UInt32) (e : Int) : Sim Tryz.prog G0 true 88 [.agg [.bool b, sl l, .int .i64 e]] (.bool (ao3 2 40 l e)) := by
 refine ao af Tryz.func88 ?_
 repeat' ((conv => whnf); first | refine rgE ?_ | refine Cd.mk rfl ?_ | refine Br.t ?_ | refine Br.f ?_ | with_reducible refine Br.dec (fun _ => ?_) (fun _ => ?_) | refine ah.mk _ rfl ?_ | refine Res.mk ?_)
 ·rename_i h1 h2
  show D.bool _ = D.bool _
  congr 1
  unfold ao3
  rw [decide_eq_true (show l.length ≤ 2 by omega), decide_eq_true (show -40 ≤ e by omega)]; rfl
 ·rename_i h1 h2
  show D.bool _ = D.bool _
  rw [af2 (by omega)]
 ·rename_i h1
  show D.bool _ = D.bool _
  rw [af2 (by omega)]
theorem xw (r : RC) : Sim Tryz.prog G0 true 45 [.agg r.cells] (.bool (r.few 2 40)) := by
 obtain ⟨b, l, e, c, k, f⟩ := r
 refine ao af Tryz.func45 ?_
 repeat' ((conv => whnf); first | with_reducible refine ag.data ?_ | refine aa.mk _ _ (an1 _ _ _) ?_ | refine rgE ?_ | refine Cd.mk rfl ?_ | refine Br.t ?_ | refine Br.f ?_ | refine Br.mk (fun _ => ?_) (fun _ => ?_) | (refine TkE.fL ?_; (conv => whnf); fail_if_success (show ae _ _)) | refine Res.mk ?_)
 all_goals
  rename_i h
  show D.bool (_ && _) = D.bool _
  rw [h]; rfl
theorem a3o (xs : List Nd) (i : Nat) (h : i < xs.length) : ((((xs.flatMap Nd.cells).drop ((i : Int).toNat * 10)).drop 4).drop 0).take 6 = (xs.getD i Nd.nil).r.cells := by
 have k := cg xs i h
 rw [List.drop_zero] at k ⊢
 generalize (xs.flatMap Nd.cells).drop ((i : Int).toNat * 10) = l at *
 have : (l.drop 4).take 6 = (l.take 10).drop 4 := by rw [List.drop_take]
 rw [this, k]; rfl
def af3 (xs : List Nd) : Bool := (xs.all fun x => x.r.few 2 40) && decide (xs.length ≤ 45)
def iC (s : Int) : List D := [.int .i64 s]
theorem akg (s : Int) : (iC s).length = 1 := rfl
def ku (ss : List Int) (n : Nat) : List Int := ss ++ List.replicate (n - ss.length) 0
theorem ag9 {ss : List Int} {n : Nat} (h : ss.length ≤ n) : (ku ss n).length = n := by unfold ku; simp; omega
theorem anr (n : Nat) : jb (n : Int).toNat (nc [.int .i64]) = fa iC (ku [] n) := by
 rw [Int.toNat_natCast]
 unfold ku fa jb
 rw [List.nil_append, List.length_nil, Nat.sub_zero]
 induction n with
 | zero => rfl
 | succ n ih => rw [List.replicate_succ, List.replicate_succ, List.flatten_cons, List.flatMap_cons, List.map_append, ih]; rfl
theorem arn (ss : List Int) (i : Nat) (h : i < ss.length) : (fa iC ss)[i]? = some (.d (.int .i64 (ss.getD i 0))) := by
 have e : ∀ ss : List Int, fa iC ss = ss.map fun s => A.d (.int .i64 s) := fun ss => by
  unfold fa
  clear h
  induction ss with
  | nil => rfl
  | cons s ss ih => rw [List.flatMap_cons, List.map_append, List.map_cons, ih]; rfl
 rw [e, List.getElem?_map, List.getElem?_eq_getElem h]; simp [h]
theorem ayq {ss : List Int} {n i : Nat} (h : i < ss.length) : (ku ss n).getD i 0 = ss.getD i 0 := by
 unfold ku
 rw [List.getD_eq_getElem?_getD, List.getElem?_append_left h, List.getD_eq_getElem?_getD]
theorem ayr {ss : List Int} {n : Nat} (r : Int) (h : ss.length < n) : (ku ss n).set ss.length r = ku (ss ++ [r]) n := by
 unfold ku
 rw [List.set_append_right _ _ (by simp), Nat.sub_self, List.append_assoc, List.length_append, show n - ss.length = (n - (ss.length + 1)) + 1 by omega, List.replicate_succ]
 rfl
theorem amh {ss : List Int} {n : Nat} {a : Int} (h0 : 0 ≤ a) (h1 : a.toNat < ss.length) (hv : ss.length ≤ n) : (fa iC (ku ss n))[0 + a.toNat * 1]? = some (.d (.int .i64 (ss.getD a.toNat 0))) := by
 rw [Nat.zero_add, Nat.mul_one, arn _ _ (by rw [ag9 hv]; omega), ayq h1]
theorem a42 {ss : List Int} {n : Nat} (r : Int) (h : ss.length < n) : setAt (fa iC (ku ss n)) (0 + ((ss.length : Nat) : Int).toNat * 1) [.d (.int .i64 r)] = fa iC (ku (ss ++ [r]) n) := by
 have := aco (f := iC) (k := 1) akg (ku ss n) ss.length r (by rw [ag9 (by omega)]; exact h)
 rw [ayr r h] at this; exact this
theorem a3b {ss : List Int} {n : Nat} (r : Int) (h : ss.length < n) : (fa iC (ku (ss ++ [r]) n))[0 + ((ss.length : Nat) : Int).toNat * 1]? = some (.d (.int .i64 r)) := by
 have := amh (ss := ss ++ [r]) (n := n) (a := ((ss.length : Nat) : Int)) (by omega) (by rw [Int.toNat_natCast]; simp) (by simp; omega)
 rw [this, Int.toNat_natCast, gf]
theorem a41 {ss : List Int} {n : Nat} (h : ss.length < n) : 0 + ((ss.length : Nat) : Int).toNat * 1 + 1 ≤ (fa iC (ku ss n)).length := by rw [du akg, ag9 (by omega), Int.toNat_natCast]; omega
def aqt (xs : List Nd) (i : Nat) : Prop := ∀ j, j < i → ef (szL xs j) (xs.getD j Nd.nil) j ≤ 60
theorem sk (xs : List Nd) : ∀ i j, j < i → (szL xs i).getD j 0 = ef (szL xs j) (xs.getD j Nd.nil) j
 | i + 1, j, h => by
  rw [szL]
  rcases Nat.lt_succ_iff_lt_or_eq.1 h with g | rfl
  ·rw [n4 (by rw [v5]; exact g)]; exact sk xs i j g
  ·have := v5 xs j
   rw [List.getD_eq_getElem?_getD, List.getElem?_append_right (by omega), this, Nat.sub_self]; rfl
theorem ahi {xs : List Nd} {i : Nat} (h : aqt xs i) : ∀ j, j < i → 1 ≤ (szL xs i).getD j 0 ∧ (szL xs i).getD j 0 ≤ 60 := by
 intro j
 induction j using Nat.strongRecOn with
 | ind j ih =>
  intro hj
  rw [sk xs i j hj]
  refine ⟨?_, h j hj⟩
  have p : ∀ a : Int, inA a j = true → 1 ≤ (szL xs j).getD a.toNat 0 := fun a ha => by
   have ha := dg.1 ha
   have := (ih a.toNat (by omega) (by omega)).1
   rw [sk xs i _ (by omega)] at this
   rwa [sk xs j _ (by omega)]
  unfold ef
  split
  ·rename_i g
   have := p _ g.2
   have m : 1 ≤ max 1 (min (xs.getD j Nd.nil).n 64) := by omega
   generalize max 1 (min (xs.getD j Nd.nil).n 64) = v at *
   have := Int.mul_nonneg (show 0 ≤ (szL xs j).getD (xs.getD j Nd.nil).a.toNat 0 by omega) (show 0 ≤ v by omega)
   omega
  ·split
   ·rename_i g
    have := p _ g.2.1
    have := p _ g.2.2
    omega
   ·split
    ·rename_i g
     have := p _ g.2
     omega
    ·omega
theorem aay {xs : List Nd} : alv xs = false ↔ aqt xs xs.length := by
 unfold alv aqt
 rw [List.any_eq_false]
 constructor
 ·intro h j hj
  have := h ((szL xs xs.length).getD j 0) (by
   have l := v5 xs xs.length
   simp [show j < (szL xs xs.length).length by omega])
  rw [sk xs _ j hj] at this
  simpa using this
 ·intro h s hs
  obtain ⟨j, hj, rfl⟩ := List.mem_iff_getElem.1 hs
  have l := v5 xs xs.length
  have := h j (by omega)
  rw [← sk xs xs.length j (by omega)] at this
  rw [List.getD_eq_getElem?_getD, List.getElem?_eq_getElem hj] at this
  simpa using this
end Go.Ev.Ar

namespace Go.Ev.Ar
open Go Go.Ev Go.Proofs
theorem avu {xs : List Nd} {i : Nat} (hi : i < xs.length) (h : ef (szL xs i) (xs.getD i Nd.nil) i > 60) : alv xs = true := by
 rw [← Bool.not_eq_false]
 intro g
 have := aay.1 g i hi
 omega
set_option maxRecDepth 10000 in
set_option maxHeartbeats 8000000 in
theorem ajv (xs : List Nd) (hn : xs.length ≤ 45) : Sim Tryz.prog G0 true 46 [nsl xs] (.bool (alv xs)) := by
 refine ao af Tryz.func46 ?_
 repeat' ((conv => whnf); first | refine EqE.mk _ (anr xs.length) ?_ | refine rgE ?_ | refine Cd.mk rfl ?_ | refine Cd.os ?_)
 refine ⟨[], [0, 3, 4], [8], fun m ys h => ∃ (i : Nat), m = xs.length - i ∧ i ≤ xs.length ∧ aqt xs i ∧
   ys = [.d (nsl xs), .own 8 0 xs.length 1, .d (.int .i64 i)] ∧ h = [(8, false, fa iC (ku (szL xs i) xs.length))],
  ⟨_, _, _, ⟨.inl rfl, rfl, rfl, az _ _ _ _ _ _ rfl⟩, 0, rfl, by omega, fun j hj => absurd hj (by omega), rfl, rfl⟩, ?_⟩
 rintro m ys h ⟨i, rfl, hi, hok, rfl, rfl⟩
 by_cases hlt : i < xs.length
 ·have hpos := ahi hok
  have hl := v5 xs i
  have hbig := fun h => avu hlt h
  have hnx : szL xs (i + 1) = szL xs i ++ [ef (szL xs i) (xs.getD i Nd.nil) i] := rfl
  have hadd : ¬ ef (szL xs i) (xs.getD i Nd.nil) i > 60 → aqt xs (i + 1) := fun h j hj => by
   rcases Nat.lt_succ_iff_lt_or_eq.1 hj with g | rfl
   ·exact hok j g
   ·omega
  generalize hss : szL xs i = ss at *
  generalize hxx : xs.getD i Nd.nil = x at *
  have T1 := (cg xs i hlt).trans (congrArg Nd.cells hxx)
  obtain ⟨k, a, b, n', ⟨b1, l1, e1, c1, k1, f1⟩⟩ := x
  subst hl
  have hla : ∀ a : Int, 0 ≤ a → a < ss.length → 1 ≤ ss.getD a.toNat 0 ∧ ss.getD a.toNat 0 ≤ 60 := fun a h1 h2 => hpos a.toNat (by omega)
  obtain ⟨s, hs⟩ : ∃ s, ef ss ⟨k, a, b, n', ⟨b1, l1, e1, c1, k1, f1⟩⟩ ss.length = s := ⟨_, rfl⟩
  rw [hs] at hbig hadd hnx
  have S1 := a42 s hlt
  have N3 := a3b s hlt
  have LE := a41 hlt
  rw [← hnx] at S1 N3
  by_cases q1 : k = 7 ∧ 0 ≤ a ∧ a < ss.length
  ·have e : s = ss.getD a.toNat 0 * max 1 (min n' 64) + 1 := by
    rw [← hs]; unfold ef; rw [if_pos ⟨q1.1, dg.2 q1.2⟩]
   have N1 := amh (ss := ss) (n := xs.length) q1.2.1 (by omega) (by omega)
   have la := hla a q1.2.1 q1.2.2
   generalize ss.getD a.toNat 0 = u at *
   obtain ⟨v, hv⟩ : ∃ v, max 1 (min n' 64) = v := ⟨_, rfl⟩
   have v1 : 1 ≤ v ∧ v ≤ 64 := by omega
   rw [hv] at e
   have hp : 0 ≤ u * v ∧ u * v ≤ 3840 := by
    have a1 := Int.mul_nonneg (show 0 ≤ u by omega) (show 0 ≤ v by omega)
    have a2 := Int.mul_le_mul (show u ≤ 60 by omega) (show v ≤ 64 by omega) (by omega) (by omega)
    omega
   obtain ⟨w, hw⟩ : ∃ w, u * v = w := ⟨_, rfl⟩
   rw [hw] at hp e
   by_cases g : s > 60
   ·have hb := hbig g
    rw [hb]
    repeat' ((conv => whnf); first | ((with_reducible refine Br.ck ?hpp ?_); case hpp => first | omega | (dsimp only; omega)) | refine Cd.mk (ba xs _ (by omega)) ?_ | ((with_reducible show TkE (List.drop _ (List.flatMap Nd.cells _)) _ _ _); refine TkE.mk _ T1 rfl ?_) | ((with_reducible show ah (fa iC (ku ss _)) _ _); refine ah.mk _ N1 ?_) | ((with_reducible show ah (fa iC (ku (szL _ _) _)) _ _); refine ah.mk _ N3 ?_) | refine Cd.mk LE ?_ | refine rgE ?_ | refine Cd.mk rfl ?_ | refine Br.t ?_ | refine ah.mk _ rfl ?_ | refine Res.mk ?_ | ((with_reducible refine EqE.idW ?_); first | refine EqE.mk w ((aj (by rw [hw]; omega) (by rw [hw]; omega)).trans hw) ?_ | refine EqE.mk s ((aj (by omega) (by omega)).trans e.symm) ?_) | ((with_reducible refine EqE.idI ?_); first | refine EqE.mk v ((max_eq _ _).trans hv) ?_ | refine EqE.mk _ (min_eq _ _) ?_) | ((with_reducible refine EqE.idS ?_); first | ((with_reducible show EqE (setAt (fa iC _) _ _) _); refine EqE.mk _ S1 ?_) | (refine EqE.fP ?_; (conv => whnf); fail_if_success (show ae _ _))) | refine Cd.ol ?_ | refine Cd.os ?_)
    rfl
   ·have ha := hadd g
    repeat' ((conv => whnf); first | ((with_reducible refine Br.ck ?hpp ?_); case hpp => first | omega | (dsimp only; omega)) | ((with_reducible refine Br.b4 ?hpp ?_); case hpp => first | omega | (dsimp only; omega)) | refine Cd.mk (ba xs _ (by omega)) ?_ | ((with_reducible show TkE (List.drop _ (List.flatMap Nd.cells _)) _ _ _); refine TkE.mk _ T1 rfl ?_) | ((with_reducible show ah (fa iC (ku ss _)) _ _); refine ah.mk _ N1 ?_) | ((with_reducible show ah (fa iC (ku (szL _ _) _)) _ _); refine ah.mk _ N3 ?_) | refine Cd.mk LE ?_ | refine an.go _ _ ⟨.inl rfl, rfl, rfl, az _ _ _ _ _ _ rfl⟩ ?_ | refine rgE ?_ | refine Cd.mk rfl ?_ | refine Br.t ?_ | refine ah.mk _ rfl ?_ | ((with_reducible refine EqE.idW ?_); first | refine EqE.mk w ((aj (by rw [hw]; omega) (by rw [hw]; omega)).trans hw) ?_ | refine EqE.mk s ((aj (by omega) (by omega)).trans e.symm) ?_ | with_reducible refine EqE.mk _ (ax _ (by omega)) ?_) | ((with_reducible refine EqE.idI ?_); first | refine EqE.mk v ((max_eq _ _).trans hv) ?_ | refine EqE.mk _ (min_eq _ _) ?_) | ((with_reducible refine EqE.idS ?_); first | ((with_reducible show EqE (setAt (fa iC _) _ _) _); refine EqE.mk _ S1 ?_) | (refine EqE.fP ?_; (conv => whnf); fail_if_success (show ae _ _))) | refine Cd.ol ?_ | refine Cd.os ?_)
    exact ⟨_, ⟨ss.length + 1, rfl, by omega, ha, rfl, rfl⟩, by omega⟩
  by_cases q2 : (3 ≤ k ∧ k ≤ 6) ∧ (0 ≤ a ∧ a < ss.length) ∧ (0 ≤ b ∧ b < ss.length)
  ·have e : s = ss.getD a.toNat 0 + ss.getD b.toNat 0 + 1 := by
    rw [← hs]; unfold ef; rw [if_neg (fun h => by have := h.1; dsimp only at this; omega), if_pos ⟨q2.1, dg.2 q2.2.1, dg.2 q2.2.2⟩]
   have N1 := amh (ss := ss) (n := xs.length) q2.2.1.1 (by omega) (by omega)
   have N2 := amh (ss := ss) (n := xs.length) q2.2.2.1 (by omega) (by omega)
   have la := hla a q2.2.1.1 q2.2.1.2
   have lb := hla b q2.2.2.1 q2.2.2.2
   generalize ss.getD a.toNat 0 = u at *
   generalize ss.getD b.toNat 0 = v at *
   by_cases g : s > 60
   ·have hb := hbig g
    rw [hb]
    repeat' ((conv => whnf); first | ((with_reducible refine Br.ck ?hpp ?_); case hpp => first | omega | (dsimp only; omega)) | ((with_reducible refine Br.b4 ?hpp ?_); case hpp => first | omega | (dsimp only; omega)) | refine Cd.mk (ba xs _ (by omega)) ?_ | ((with_reducible show TkE (List.drop _ (List.flatMap Nd.cells _)) _ _ _); refine TkE.mk _ T1 rfl ?_) | ((with_reducible show ah (fa iC (ku ss _)) (0 + Int.toNat a * _) _); refine ah.mk _ N1 ?_) | ((with_reducible show ah (fa iC (ku ss _)) (0 + Int.toNat b * _) _); refine ah.mk _ N2 ?_) | ((with_reducible show ah (fa iC (ku (szL _ _) _)) _ _); refine ah.mk _ N3 ?_) | refine Cd.mk LE ?_ | refine rgE ?_ | refine Cd.mk rfl ?_ | refine Br.t ?_ | refine Br.f ?_ | refine ah.mk _ rfl ?_ | refine Res.mk ?_ | ((with_reducible refine EqE.idW ?_); first | refine EqE.mk (u + v) (aj (by omega) (by omega)) ?_ | refine EqE.mk s ((aj (by omega) (by omega)).trans e.symm) ?_) | ((with_reducible refine EqE.idS ?_); first | ((with_reducible show EqE (setAt (fa iC _) _ _) _); refine EqE.mk _ S1 ?_) | (refine EqE.fP ?_; (conv => whnf); fail_if_success (show ae _ _))) | refine Cd.ol ?_ | refine Cd.os ?_)
    rfl
   ·have ha := hadd g
    repeat' ((conv => whnf); first | ((with_reducible refine Br.ck ?hpp ?_); case hpp => first | omega | (dsimp only; omega)) | ((with_reducible refine Br.b4 ?hpp ?_); case hpp => first | omega | (dsimp only; omega)) | refine Cd.mk (ba xs _ (by omega)) ?_ | ((with_reducible show TkE (List.drop _ (List.flatMap Nd.cells _)) _ _ _); refine TkE.mk _ T1 rfl ?_) | ((with_reducible show ah (fa iC (ku ss _)) (0 + Int.toNat a * _) _); refine ah.mk _ N1 ?_) | ((with_reducible show ah (fa iC (ku ss _)) (0 + Int.toNat b * _) _); refine ah.mk _ N2 ?_) | ((with_reducible show ah (fa iC (ku (szL _ _) _)) _ _); refine ah.mk _ N3 ?_) | refine Cd.mk LE ?_ | refine an.go _ _ ⟨.inl rfl, rfl, rfl, az _ _ _ _ _ _ rfl⟩ ?_ | refine rgE ?_ | refine Cd.mk rfl ?_ | refine Br.t ?_ | refine Br.f ?_ | refine ah.mk _ rfl ?_ | ((with_reducible refine EqE.idW ?_); first | refine EqE.mk (u + v) (aj (by omega) (by omega)) ?_ | refine EqE.mk s ((aj (by omega) (by omega)).trans e.symm) ?_ | with_reducible refine EqE.mk _ (ax _ (by omega)) ?_) | ((with_reducible refine EqE.idS ?_); first | ((with_reducible show EqE (setAt (fa iC _) _ _) _); refine EqE.mk _ S1 ?_) | (refine EqE.fP ?_; (conv => whnf); fail_if_success (show ae _ _))) | refine Cd.ol ?_ | refine Cd.os ?_)
    exact ⟨_, ⟨ss.length + 1, rfl, by omega, ha, rfl, rfl⟩, by omega⟩
  by_cases q3 : 8 ≤ k ∧ 0 ≤ a ∧ a < ss.length
  ·have e : s = ss.getD a.toNat 0 + 1 := by
    rw [← hs]; unfold ef
    rw [if_neg (fun h => by have := h.1; dsimp only at this; omega), if_neg (fun h => by have := h.1; dsimp only at this; omega), if_pos ⟨q3.1, dg.2 q3.2⟩]
   have N1 := amh (ss := ss) (n := xs.length) q3.2.1 (by omega) (by omega)
   have la := hla a q3.2.1 q3.2.2
   generalize ss.getD a.toNat 0 = u at *
   by_cases g : s > 60
   ·have hb := hbig g
    rw [hb]
    repeat' ((conv => whnf); first | ((with_reducible refine Br.ck ?hpp ?_); case hpp => first | omega | (dsimp only; omega)) | ((with_reducible refine Br.b4 ?hpp ?_); case hpp => first | omega | (dsimp only; omega)) | refine Cd.mk (ba xs _ (by omega)) ?_ | ((with_reducible show TkE (List.drop _ (List.flatMap Nd.cells _)) _ _ _); refine TkE.mk _ T1 rfl ?_) | ((with_reducible show ah (fa iC (ku ss _)) _ _); refine ah.mk _ N1 ?_) | ((with_reducible show ah (fa iC (ku (szL _ _) _)) _ _); refine ah.mk _ N3 ?_) | refine Cd.mk LE ?_ | refine rgE ?_ | refine Cd.mk rfl ?_ | refine Br.t ?_ | refine Br.f ?_ | refine ah.mk _ rfl ?_ | refine Res.mk ?_ | ((with_reducible refine EqE.idW ?_); refine EqE.mk s ((aj (by omega) (by omega)).trans e.symm) ?_) | ((with_reducible refine EqE.idS ?_); first | ((with_reducible show EqE (setAt (fa iC _) _ _) _); refine EqE.mk _ S1 ?_) | (refine EqE.fP ?_; (conv => whnf); fail_if_success (show ae _ _))) | refine Cd.ol ?_ | refine Cd.os ?_)
    rfl
   ·have ha := hadd g
    repeat' ((conv => whnf); first | ((with_reducible refine Br.ck ?hpp ?_); case hpp => first | omega | (dsimp only; omega)) | ((with_reducible refine Br.b4 ?hpp ?_); case hpp => first | omega | (dsimp only; omega)) | refine Cd.mk (ba xs _ (by omega)) ?_ | ((with_reducible show TkE (List.drop _ (List.flatMap Nd.cells _)) _ _ _); refine TkE.mk _ T1 rfl ?_) | ((with_reducible show ah (fa iC (ku ss _)) _ _); refine ah.mk _ N1 ?_) | ((with_reducible show ah (fa iC (ku (szL _ _) _)) _ _); refine ah.mk _ N3 ?_) | refine Cd.mk LE ?_ | refine an.go _ _ ⟨.inl rfl, rfl, rfl, az _ _ _ _ _ _ rfl⟩ ?_ | refine rgE ?_ | refine Cd.mk rfl ?_ | refine Br.t ?_ | refine Br.f ?_ | refine ah.mk _ rfl ?_ | ((with_reducible refine EqE.idW ?_); first | refine EqE.mk s ((aj (by omega) (by omega)).trans e.symm) ?_ | with_reducible refine EqE.mk _ (ax _ (by omega)) ?_) | ((with_reducible refine EqE.idS ?_); first | ((with_reducible show EqE (setAt (fa iC _) _ _) _); refine EqE.mk _ S1 ?_) | (refine EqE.fP ?_; (conv => whnf); fail_if_success (show ae _ _))) | refine Cd.ol ?_ | refine Cd.os ?_)
    exact ⟨_, ⟨ss.length + 1, rfl, by omega, ha, rfl, rfl⟩, by omega⟩
  have e : s = 1 := by
   rw [← hs]; unfold ef
   rw [if_neg (fun h => q1 ⟨h.1, dg.1 h.2⟩), if_neg (fun h => q2 ⟨h.1, dg.1 h.2.1, dg.1 h.2.2⟩), if_neg (fun h => q3 ⟨h.1, dg.1 h.2⟩)]
  have ha := hadd (by omega)
  subst e
  repeat' ((conv => whnf); first | ((with_reducible refine Br.ck ?hpp ?_); case hpp => first | omega | (dsimp only; omega)) | ((with_reducible refine Br.b4 ?hpp ?_); case hpp => first | omega | (dsimp only; omega)) | refine Cd.mk (ba xs _ (by omega)) ?_ | ((with_reducible show TkE (List.drop _ (List.flatMap Nd.cells _)) _ _ _); refine TkE.mk _ T1 rfl ?_) | ((with_reducible show ah (fa iC (ku (szL _ _) _)) _ _); refine ah.mk _ N3 ?_) | refine Cd.mk LE ?_ | refine an.go _ _ ⟨.inl rfl, rfl, rfl, az _ _ _ _ _ _ rfl⟩ ?_ | refine rgE ?_ | refine Cd.mk rfl ?_ | refine Br.t ?_ | refine Br.f ?_ | with_reducible refine Br.dec (fun _ => ?_) (fun _ => ?_) | refine ah.mk _ rfl ?_ | ((with_reducible refine EqE.idW ?_); with_reducible refine EqE.mk _ (ax _ (by omega)) ?_) | ((with_reducible refine EqE.idS ?_); first | ((with_reducible show EqE (setAt (fa iC _) _ _) _); refine EqE.mk _ S1 ?_) | (refine EqE.fP ?_; (conv => whnf); fail_if_success (show ae _ _))) | refine Cd.ol ?_ | refine Cd.os ?_)
  all_goals first | exact ⟨_, ⟨ss.length + 1, rfl, by omega, ha, rfl, rfl⟩, by omega⟩ | (exfalso; dsimp only at *; omega)
 ·have hin : i = xs.length := by omega
  subst hin
  repeat' ((conv => whnf); first | ((with_reducible refine Br.b4 ?hpp ?_); case hpp => first | omega | (dsimp only; omega)) | refine rgE ?_ | refine Cd.mk rfl ?_ | refine Res.mk ?_)
  rw [aay.2 hok]
  rfl
end Go.Ev.Ar

namespace Go.Ev.Ar
open Go Go.Ev Go.Proofs
set_option maxHeartbeats 4000000 in
theorem aum (r : RC) : Sim Tryz.prog G0 true 102 [.agg [.bool r.b, sl r.l, .int .i64 r.e, .bool r.c, sl r.k, .int .i64 r.f]] (.bool (noC r)) := by
 obtain ⟨b1, l1, e1, c1, k1, f1⟩ := r
 have e : noC ⟨b1, l1, e1, c1, k1, f1⟩ = (decide (l1.length = 0) && decide (k1.length = 0) && !b1 && !c1 && decide (e1 = 0) && decide (f1 = 0)) := rfl
 rw [e]
 clear e
 refine ao af Tryz.func102 ?_
 repeat' ((conv => whnf); first | refine rgE ?_ | refine Cd.mk rfl ?_ | refine Br.t ?_ | refine Br.f ?_ | with_reducible refine Br.dec (fun _ => ?_) (fun _ => ?_) | refine Br.mk (fun _ => ?_) (fun _ => ?_) | refine ah.mk _ rfl ?_ | refine Res.mk ?_)
 all_goals
  show D.bool _ = D.bool _
  refine congrArg D.bool ?_
  grind
set_option maxHeartbeats 4000000 in
theorem auh (r : RC) (h1 : r.l.length ≤ 4194304) (h2 : r.k.length ≤ 4194304) : Sim Tryz.prog G0 true 103 [.agg [.bool r.b, sl r.l, .int .i64 r.e, .bool r.c, sl r.k, .int .i64 r.f]] (.bool (kq r.b r.l r.e && kq r.c r.k r.f)) := by
 obtain ⟨b1, l1, e1, c1, k1, f1⟩ := r
 have d1 := as0 b1 l1 e1 h1
 have d2 := as0 c1 k1 f1 h2
 dsimp only
 obtain ⟨u1, hu1⟩ : ∃ t, kq b1 l1 e1 = t := ⟨_, rfl⟩
 obtain ⟨u2, hu2⟩ : ∃ t, kq c1 k1 f1 = t := ⟨_, rfl⟩
 rw [hu1] at d1 ⊢
 rw [hu2] at d2 ⊢
 refine ao af Tryz.func103 ?_
 cases u1
 ·repeat' ((conv => whnf); first | with_reducible refine ag.data ?_ | refine aa.mk _ _ (d1) ?_ | refine rgE ?_ | refine Cd.mk rfl ?_ | refine Br.f ?_ | (refine TkE.fL ?_; (conv => whnf); fail_if_success (show ae _ _)) | refine Res.mk ?_)
  all_goals rfl
 ·repeat' ((conv => whnf); first | with_reducible refine ag.data ?_ | refine aa.mk _ _ (d1) ?_ | refine aa.mk _ _ (d2) ?_ | refine rgE ?_ | refine Cd.mk rfl ?_ | refine Br.t ?_ | (refine TkE.fL ?_; (conv => whnf); fail_if_success (show ae _ _)) | refine Res.mk ?_)
  all_goals rfl
theorem a3p {r : RC} (h : noC r = true) : kq r.b r.l r.e = true ∧ kq r.c r.k r.f = true := by
 obtain ⟨b1, l1, e1, c1, k1, f1⟩ := r
 unfold noC at h
 simp only [Bool.and_eq_true, decide_eq_true_eq, Bool.not_eq_true', List.length_eq_zero_iff] at h
 obtain ⟨⟨⟨⟨⟨rfl, rfl⟩, rfl⟩, rfl⟩, rfl⟩, rfl⟩ := h
 exact ⟨rfl, rfl⟩
theorem aw8 (x : Nd) (i : Int) : dy x i =
    (if x.k = 1 then decide (x.a = 0) && decide (x.b = 0) && decide (x.n = 0) && noC x.r
     else if x.k = 2 then decide (x.a = 0) && decide (x.b = 0) && decide (x.n = 0) && (kq x.r.b x.r.l x.r.e && kq x.r.c x.r.k x.r.f)
     else if 3 ≤ x.k ∧ x.k ≤ 6 then decide (0 ≤ x.a ∧ x.a < i) && decide (0 ≤ x.b ∧ x.b < i) && decide (x.n = 0) && noC x.r
     else if x.k = 7 then decide (0 ≤ x.a ∧ x.a < i) && decide (x.b = 0) && decide (0 ≤ x.n ∧ x.n ≤ 64) && noC x.r
     else if 8 ≤ x.k ∧ x.k ≤ 10 then decide (0 ≤ x.a ∧ x.a < i) && decide (x.b = 0) && decide (x.n = 0) && noC x.r
     else false) := by
  have h := @a3p x.r
  unfold dy blB
  generalize noC x.r = u at *
  generalize kq x.r.b x.r.l x.r.e = v at *
  generalize kq x.r.c x.r.k x.r.f = w at *
  grind
set_option maxRecDepth 10000 in
set_option maxHeartbeats 16000000 in
theorem uk (xs : List Nd) (hn : xs.length < 2^62) (hl : ∀ x ∈ xs, x.r.l.length ≤ 4194304 ∧ x.r.k.length ≤ 4194304) : Sim Tryz.prog G0 true 53 [nsl xs] (.bool (fu xs)) := by
 refine ao af Tryz.func53 ?_
 by_cases hlen : 0 < xs.length ∧ xs.length ≤ 40
 rotate_left
 ·have e : fu xs = false := by
   unfold fu
   rw [Bool.and_eq_false_iff]; left
   rw [← Bool.decide_and]
   exact decide_eq_false hlen
  rw [e]
  repeat' ((conv => whnf); first | refine rgE ?_ | refine Cd.mk rfl ?_ | refine Br.t ?_ | refine Br.f ?_ | with_reducible refine Br.dec (fun _ => ?_) (fun _ => ?_) | refine Res.mk ?_)
  all_goals first | rfl | (exfalso; omega)
 obtain ⟨hl0, hl40⟩ := hlen
 repeat' ((conv => whnf); first | ((with_reducible refine Br.b4 ?hpp ?_); case hpp => first | omega | (dsimp only; omega)) | refine rgE ?_ | refine Cd.mk rfl ?_ | refine Br.f ?_)
 refine ⟨[], [0, 3], [], fun m ys h => ∃ (i : Nat), m = xs.length - i ∧ i ≤ xs.length ∧ (∀ j, j < i → dy (xs.getD j Nd.nil) j = true) ∧
  ys = [.d (nsl xs), .d (.int .i64 i)] ∧ h = [],
  ⟨_, _, _, ⟨.inl rfl, rfl, rfl, by first | rfl | (repeat first | exact all_nil _ | refine bm _ _ _ _ _ ?_)⟩, 0, rfl, by omega, fun j hj => absurd hj (by omega), rfl, rfl⟩, ?_⟩
 rintro m ys h ⟨i, rfl, hi, hall, rfl, rfl⟩
 by_cases hlt : i < xs.length
 ·have hx := hl (xs.getD i Nd.nil) (by simp [hlt])
  have T1 := cg xs i hlt
  have hE := aw8 (xs.getD i Nd.nil) i
  have no : dy (xs.getD i Nd.nil) i = false → fu xs = false := fun ht => by
   unfold fu
   rw [Bool.and_eq_false_iff]; right
   rw [List.all_eq_false]
   exact ⟨i, List.mem_range.2 hlt, by rw [ht]; decide⟩
  have yes : dy (xs.getD i Nd.nil) i = true → ∀ j, j < i + 1 → dy (xs.getD j Nd.nil) j = true := fun ht j hj => by
   rcases Nat.lt_succ_iff_lt_or_eq.1 hj with g | rfl
   ·exact hall j g
   ·exact ht
  obtain ⟨T, hT⟩ : ∃ T, dy (xs.getD i Nd.nil) i = T := ⟨_, rfl⟩
  rw [hT] at hE no yes
  generalize xs.getD i Nd.nil = x at *
  clear hT
  have c1 := aum x.r
  have c2 := auh x.r hx.1 hx.2
  obtain ⟨k, a, b, n, ⟨b1, l1, e1, c1', k1, f1⟩⟩ := x
  dsimp only at *
  generalize noC ⟨b1, l1, e1, c1', k1, f1⟩ = u at *
  generalize (kq b1 l1 e1 && kq c1' k1 f1) = w at *
  repeat' ((conv => whnf); first | with_reducible refine ag.data ?_ | ((with_reducible refine Br.ck ?hpp ?_); case hpp => first | omega | (dsimp only; omega)) | ((with_reducible refine Br.b4 ?hpp ?_); case hpp => first | omega | (dsimp only; omega)) | refine aa.mk _ _ (c1) ?_ | refine aa.mk _ _ (c2) ?_ | refine Cd.mk (ba xs _ (by omega)) ?_ | ((with_reducible show TkE (List.drop _ (List.flatMap Nd.cells _)) _ _ _); refine TkE.mk _ T1 rfl ?_) | refine rgE ?_ | refine Cd.mk rfl ?_ | refine Br.t ?_ | refine Br.f ?_ | with_reducible refine Br.dec (fun _ => ?_) (fun _ => ?_) | refine Br.mk (fun _ => ?_) (fun _ => ?_) | refine ah.mk _ rfl ?_ | (refine TkE.fL ?_; (conv => whnf); fail_if_success (show ae _ _)) | refine Res.mk ?_ | refine an.cu _ _ ?_ | ((with_reducible refine EqE.idW ?_); with_reducible refine EqE.mk _ (ax _ (by omega)) ?_) | ((with_reducible refine EqE.idS ?_); (refine EqE.fP ?_; (conv => whnf); fail_if_success (show ae _ _))) | refine Cd.ol ?_)
  all_goals
   first
    | (rw [no (by clear no yes c1 c2 T1 hall hl hx; dsimp only at *; rw [hE]; grind)]; rfl)
    | exact ⟨_, ⟨i + 1, rfl, by omega, yes (by clear no yes c1 c2 T1 hall hl hx; dsimp only at *; rw [hE]; grind), rfl, rfl⟩, by omega⟩
 ·have e : fu xs = true := by
   unfold fu
   have : ((List.range xs.length).all fun i => dy (xs.getD i Nd.nil) i) = true := List.all_eq_true.2 fun j hj => hall j (by have := List.mem_range.1 hj; omega)
   rw [this, Bool.and_true, decide_eq_true hl0, decide_eq_true hl40, Bool.and_true]
  rw [e]
  repeat' ((conv => whnf); first | ((with_reducible refine Br.b4 ?hpp ?_); case hpp => first | omega | (dsimp only; omega)) | refine rgE ?_ | refine Cd.mk rfl ?_ | refine Res.mk ?_)
  rfl
end Go.Ev.Ar

namespace Go.Ev.Ar
open Go Go.Ev Go.Proofs
theorem ab2 {a b w : Cq} (ha : Hc 40000 a) (hb : Hc 40000 b) (h : (a.1 + b.1, a.2 + b.2) = w) : Sim Tryz.prog G0 false 96 [cxD a, cxD b] (cxD w) := by
 subst h
 have s1 := zb (ha.1.mono (show 40000 ≤ 49000 by decide)) (hb.1.mono (by decide))
 have s2 := zb (ha.2.mono (show 40000 ≤ 49000 by decide)) (hb.2.mono (by decide))
 obtain ⟨_, _⟩ := a
 obtain ⟨_, _⟩ := b
 refine ao af Tryz.func96 ?_
 repeat' ((conv => whnf); first | refine aa.mk _ _ (s1) ?_ | refine aa.mk _ _ (s2) ?_ | refine rgE ?_ | refine Cd.mk rfl ?_ | (refine TkE.fL ?_; (conv => whnf); fail_if_success (show ae _ _)) | refine Res.mk ?_ | ((with_reducible refine EqE.idS ?_); (refine EqE.fP ?_; (conv => whnf); fail_if_success (show ae _ _))) | refine Cd.ol ?_)
 rfl
theorem a1k {a b w : Cq} (ha : Hc 40000 a) (hb : Hc 40000 b) (h : (a.1 - b.1, a.2 - b.2) = w) : Sim Tryz.prog G0 false 98 [cxD a, cxD b] (cxD w) := by
 subst h
 have s1 := ai4 (hb.mono (show 40000 ≤ 50000 by decide)) rfl
 have s2 := ab2 (a := a) (b := (-b.1, -b.2)) (w := (a.1 - b.1, a.2 - b.2)) ha ⟨hb.1.neg, hb.2.neg⟩ (by dsimp only; congr 1 <;> grind)
 generalize a.1 - b.1 = p at *
 generalize a.2 - b.2 = q at *
 obtain ⟨_, _⟩ := a
 obtain ⟨_, _⟩ := b
 refine ao af Tryz.func98 ?_
 repeat' ((conv => whnf); first | refine aa.mk _ _ (s1) ?_ | refine aa.mk _ _ (s2) ?_ | refine rgE ?_ | refine Cd.mk rfl ?_ | (refine TkE.fL ?_; (conv => whnf); fail_if_success (show ae _ _)) | refine Res.mk ?_ | ((with_reducible refine EqE.idS ?_); (refine EqE.fP ?_; (conv => whnf); fail_if_success (show ae _ _))) | refine Cd.ol ?_)
 rfl
theorem fk {a b w : Cq} (ha : Hc 20000 a) (hb : Hc 20000 b) (h : ar a b = w) : Sim Tryz.prog G0 false 97 [cxD a, cxD b] (cxD w) := by
 subst h
 have a1 : Ht 49000 (a.1 * b.1) := (ha.1.mul hb.1 (c := 40000) (by decide)).mono (by decide)
 have a2 : Ht 49000 (a.2 * b.2) := (ha.2.mul hb.2 (c := 40000) (by decide)).mono (by decide)
 have a3 : Ht 49000 (a.1 * b.2) := (ha.1.mul hb.2 (c := 40000) (by decide)).mono (by decide)
 have a4 : Ht 49000 (a.2 * b.1) := (ha.2.mul hb.1 (c := 40000) (by decide)).mono (by decide)
 have s1 := qh (ha.1.mono (show 20000 ≤ 25000 by decide)) (hb.1.mono (show 20000 ≤ 25000 by decide))
 have s2 := qh (ha.2.mono (show 20000 ≤ 25000 by decide)) (hb.2.mono (show 20000 ≤ 25000 by decide))
 have s3 := qh (ha.1.mono (show 20000 ≤ 25000 by decide)) (hb.2.mono (show 20000 ≤ 25000 by decide))
 have s4 := qh (ha.2.mono (show 20000 ≤ 25000 by decide)) (hb.1.mono (show 20000 ≤ 25000 by decide))
 have s5 := ai6 a1 a2
 have s6 := zb a3 a4
 unfold ar
 obtain ⟨p, q⟩ := a
 obtain ⟨r, s⟩ := b
 dsimp only at *
 generalize p * r - q * s = u1 at *
 generalize p * s + q * r = u2 at *
 generalize p * r = v1 at *
 generalize q * s = v2 at *
 generalize p * s = v3 at *
 generalize q * r = v4 at *
 refine ao af Tryz.func97 ?_
 repeat' ((conv => whnf); first | refine aa.mk _ _ (s1) ?_ | refine aa.mk _ _ (s2) ?_ | refine aa.mk _ _ (s3) ?_ | refine aa.mk _ _ (s4) ?_ | refine aa.mk _ _ (s5) ?_ | refine aa.mk _ _ (s6) ?_ | refine rgE ?_ | refine Cd.mk rfl ?_ | (refine TkE.fL ?_; (conv => whnf); fail_if_success (show ae _ _)) | refine Res.mk ?_ | ((with_reducible refine EqE.idS ?_); (refine EqE.fP ?_; (conv => whnf); fail_if_success (show ae _ _))) | refine Cd.ol ?_)
 rfl
theorem asz {z : Cq} (n : Nat) (hn : n ≤ 64) (hz : Hc 20000 z) (hk : ∀ i, i ≤ n → Hc 20000 (cpw z i)) : Sim Tryz.prog G0 false 99 [cxD z, .int .i64 n] (cxD (cpw z n)) := by
 have one := vx 1 0 (by decide) (by decide) (by decide) (by decide)
 have mS : ∀ i, i < n → Sim Tryz.prog G0 false 97 [cxD (cpw z i), cxD z] (cxD (cpw z (i + 1))) := fun i hi => fk (hk i (by omega)) hz rfl
 obtain ⟨a, b⟩ := z
 refine ao af Tryz.func99 ?_
 repeat' ((conv => whnf); first | with_reducible refine ag.data ?_ | refine aa.mk _ _ (one) ?_ | refine rgE ?_ | refine Cd.mk rfl ?_ | ((with_reducible refine EqE.idS ?_); (refine EqE.fP ?_; (conv => whnf); fail_if_success (show ae _ _))) | refine Cd.ol ?_)
 refine ⟨[], [1, 2, 4, 5, 6], [2, 4, 5], fun m ys h => ∃ (i : Nat), m = n - i ∧ i ≤ n ∧ ys = [.d (.int .i64 n), .ptr 2 0, .ptr 4 0, .ptr 5 0, .d (.int .i64 i)] ∧
  h = [(5, false, dyC (cpw (a, b) i).1 ++ dyC (cpw (a, b) i).2), (4, false, zeA ++ zeA), (2, false, dyC a ++ dyC b)],
  ⟨_, _, _, ⟨.inl rfl, rfl, rfl, by first | rfl | (repeat first | exact all_nil _ | refine bm _ _ _ _ _ ?_)⟩, 0, rfl, by omega, rfl, rfl⟩, ?_⟩
 rintro m ys h ⟨i, rfl, hi, rfl, rfl⟩
 by_cases hlt : i < n
 ·have mi := mS i (by omega)
  repeat' ((conv => whnf); first | with_reducible refine ag.data ?_ | with_reducible refine Br.bt fun _ => ?_ | refine aa.mk _ _ (mi) ?_ | refine rgE ?_ | refine Cd.mk rfl ?_ | (refine TkE.fL ?_; (conv => whnf); fail_if_success (show ae _ _)) | refine an.cu _ _ ?_ | ((with_reducible refine EqE.idW ?_); with_reducible refine EqE.mk _ (ax _ (by omega)) ?_) | ((with_reducible refine EqE.idI ?_); refine EqE.mk _ (min_eq _ _) ?_) | ((with_reducible refine EqE.idS ?_); (refine EqE.fP ?_; (conv => whnf); fail_if_success (show ae _ _))) | refine Cd.ol ?_)
  exact ⟨_, ⟨i + 1, rfl, by omega, rfl, rfl⟩, by omega⟩
 ·have e : i = n := by omega
  subst e
  repeat' ((conv => whnf); first | with_reducible refine Br.bf fun _ => ?_ | refine rgE ?_ | refine Cd.mk rfl ?_ | (refine TkE.fL ?_; (conv => whnf); fail_if_success (show ae _ _)) | refine Res.mk ?_ | ((with_reducible refine EqE.idI ?_); refine EqE.mk _ (min_eq _ _) ?_) | ((with_reducible refine EqE.idS ?_); (refine EqE.fP ?_; (conv => whnf); fail_if_success (show ae _ _))) | refine Cd.ol ?_)
  rfl
def ajr (p q : Rq) : Bool := decide (ar p.1 q.2 = ar q.1 p.2)
theorem auf {p q : Rq} {t : Bool} (hp : Hr 9000 p) (hq : Hr 9000 q) (ht : ajr p q = t) : Sim Tryz.prog G0 true 51 [rqD p, rqD q] (.bool t) := by
 have s1 := fk (hp.1.mono (show 9000 ≤ 20000 by decide)) (hq.2.mono (show 9000 ≤ 20000 by decide)) rfl
 have s2 := fk (hq.1.mono (show 9000 ≤ 20000 by decide)) (hp.2.mono (show 9000 ≤ 20000 by decide)) rfl
 have h2 : Hc 18001 (ar p.1 q.2) := Hc.ar hp.1 hq.2 (by decide)
 have h3 : Hc 18001 (ar q.1 p.2) := Hc.ar hq.1 hp.2 (by decide)
 have s3 := asx (h2.mono (by decide)) (h3.mono (by decide)) ht
 clear ht h2 h3 hp hq
 generalize ar p.1 q.2 = u at *
 generalize ar q.1 p.2 = v at *
 obtain ⟨⟨_, _⟩, ⟨_, _⟩⟩ := p
 obtain ⟨⟨_, _⟩, ⟨_, _⟩⟩ := q
 obtain ⟨_, _⟩ := u
 obtain ⟨_, _⟩ := v
 refine ao af Tryz.func51 ?_
 repeat' ((conv => whnf); first | refine aa.mk _ _ (s1) ?_ | refine aa.mk _ _ (s2) ?_ | refine aa.mk _ _ (s3) ?_ | refine rgE ?_ | refine Cd.mk rfl ?_ | (refine TkE.fL ?_; (conv => whnf); fail_if_success (show ae _ _)) | refine Res.mk ?_)
 all_goals rfl
end Go.Ev.Ar

namespace Go.Ev.Ar
open Go Go.Ev Go.Proofs
def adf (p q : Rq) : Rq := (((ar p.1 q.2).1 + (ar q.1 p.2).1, (ar p.1 q.2).2 + (ar q.1 p.2).2), ar p.2 q.2)
def ai9 (p q : Rq) : Rq := (((ar p.1 q.2).1 - (ar q.1 p.2).1, (ar p.1 q.2).2 - (ar q.1 p.2).2), ar p.2 q.2)
theorem ab5 (p : Rq) : ∀ j, rm p j = (cpw p.1 j, cpw p.2 j)
 | 0 => rfl
 | j + 1 => by unfold rm; rw [ab5 p j]; rfl
def eu (vs : List Rq) (x : Nd) (z : Cq) : Option Rq :=
 if x.k = 3 then some (adf (vs.getD x.a.toNat (ai, ai)) (vs.getD x.b.toNat (ai, ai)))
 else if x.k = 4 then some (ai9 (vs.getD x.a.toNat (ai, ai)) (vs.getD x.b.toNat (ai, ai)))
 else jn vs x z
def sx (vs : List Rq) (x : Nd) (z : Cq) : Option Rq := (eu vs x z).bind fun r => if r.2 = (0, 0) then none else some r
def wq (xs : List Nd) (z : Cq) : Nat → Option (List Rq)
 | 0 => some []
 | i + 1 => (wq xs z i).bind fun vs => (sx vs (xs.getD i Nd.nil) z).map fun r => vs ++ [r]
theorem af1 {xs : List Nd} {z : Cq} : ∀ {i : Nat} {vs : List Rq}, wq xs z i = some vs → vs.length = i
 | 0, vs, h => by cases h; rfl
 | i + 1, vs, h => by
  unfold wq at h
  rw [Option.bind_eq_some_iff] at h
  obtain ⟨us, hu, h⟩ := h
  rw [Option.map_eq_some_iff] at h
  obtain ⟨r, _, rfl⟩ := h
  rw [List.length_append, af1 hu]; rfl
theorem aid {xs : List Nd} {z : Cq} : ∀ {i j : Nat}, wq xs z i = none → i ≤ j → wq xs z j = none
 | i, 0, h, hj => by rw [show i = 0 by omega] at h; cases h
 | i, j + 1, h, hj => by
  by_cases e : i = j + 1
  ·rw [← e]; exact h
  ·unfold wq; rw [aid h (by omega)]; rfl
theorem aie {xs : List Nd} {z : Cq} {i : Nat} {vs : List Rq} {x : Nd} {r : Rq} (h : wq xs z i = some vs) (hx : xs.getD i Nd.nil = x) (hv : eu vs x z = some r) (hr : r.2 ≠ (0, 0)) : wq xs z (i + 1) = some (vs ++ [r]) := by
 unfold wq; rw [h, hx]; show (sx vs x z).map _ = _
 unfold sx; rw [hv]; show Option.map _ (if r.2 = (0, 0) then none else some r) = _
 rw [if_neg hr]; rfl
theorem az9 {xs : List Nd} {z : Cq} {i n : Nat} {vs : List Rq} {x : Nd} (h : wq xs z i = some vs) (hx : xs.getD i Nd.nil = x) (hv : sx vs x z = none) (hi : i < n) : wq xs z n = none := by
 refine aid (i := i + 1) ?_ hi
 unfold wq; rw [h, hx]; show (sx vs x z).map _ = _
 rw [hv]; rfl
theorem aup {a b c : Nat} {p q : Rq} (hp : Hr a p) (hq : Hr b q) (hc : a + b + 2 ≤ c) : Hr c (adf p q) := by
 have u : Hc (a + b + 1) (ar p.1 q.2) := Hc.ar hp.1 hq.2 (by omega)
 have v : Hc (a + b + 1) (ar q.1 p.2) := Hc.ar hq.1 hp.2 (by omega)
 exact ⟨⟨u.1.add v.1 (by omega), u.2.add v.2 (by omega)⟩, Hc.ar hp.2 hq.2 (by omega)⟩
theorem ayj {a b c : Nat} {p q : Rq} (hp : Hr a p) (hq : Hr b q) (hc : a + b + 2 ≤ c) : Hr c (ai9 p q) := by
 have u : Hc (a + b + 1) (ar p.1 q.2) := Hc.ar hp.1 hq.2 (by omega)
 have v : Hc (a + b + 1) (ar q.1 p.2) := Hc.ar hq.1 hp.2 (by omega)
 exact ⟨⟨u.1.sub v.1 (by omega), u.2.sub v.2 (by omega)⟩, Hc.ar hp.2 hq.2 (by omega)⟩
theorem aiw {ss : List Int} {vs : List Rq} {x : Nd} {z : Cq} {r : Rq} (hf : Fit ss vs) (hx : dy x vs.length = true) (hz : Hc 104 z) (hc : Hc 104 x.r.val) (hs : ef ss x vs.length ≤ 60) (h : eu vs x z = some r) : 1 ≤ ef ss x vs.length ∧ Hr (110 * (ef ss x vs.length).toNat) r := by
 by_cases k34 : x.k = 3 ∨ x.k = 4
 rotate_left
 ·unfold eu at h
  rw [if_neg (by omega), if_neg (by omega)] at h
  exact am0 hf hx hz hc hs h
 obtain ⟨k1, k10, fa, fb, _, _, f7, _⟩ := ik hx
 obtain ⟨a0, a1⟩ := fa (by omega)
 obtain ⟨b0, b1⟩ := fb (by omega)
 have e : ef ss x vs.length = ss.getD x.a.toNat 0 + ss.getD x.b.toNat 0 + 1 := by
  unfold ef; rw [if_neg (by omega), if_pos ⟨by omega, dg.2 ⟨a0, a1⟩, dg.2 ⟨b0, b1⟩⟩]
 rw [e] at hs ⊢
 have sa := hf.s1 x.a.toNat (by omega)
 have sb := hf.s1 x.b.toNat (by omega)
 have va := hf.v x.a.toNat (by omega)
 have vb := hf.v x.b.toNat (by omega)
 refine ⟨by omega, ?_⟩
 unfold eu at h
 generalize vs.getD x.a.toNat (ai, ai) = p at *
 generalize vs.getD x.b.toNat (ai, ai) = q at *
 generalize ss.getD x.a.toNat 0 = u at *
 generalize ss.getD x.b.toNat 0 = w at *
 obtain ⟨u, rfl⟩ := Int.eq_ofNat_of_zero_le (show 0 ≤ u by omega)
 obtain ⟨w, rfl⟩ := Int.eq_ofNat_of_zero_le (show 0 ≤ w by omega)
 rw [Int.toNat_natCast] at va vb
 rw [show ((u : Int) + (w : Int) + 1).toNat = u + w + 1 by omega]
 rcases k34 with k' | k'
 ·rw [if_pos k'] at h; cases h
  exact aup (a := 110 * u) (b := 110 * w) va vb (by omega)
 ·rw [if_neg (by omega), if_pos k'] at h; cases h
  exact ayj (a := 110 * u) (b := 110 * w) va vb (by omega)
def qc (p : Rq) : List D := oc (some p)
theorem xx (p : Rq) : (qc p).length = 12 := rfl
theorem ui {vs : List Rq} {a : Int} (h0 : 0 ≤ a) (h1 : a.toNat < vs.length) : ((fa qc vs).drop (0 + a.toNat * 12)).take 12 = (qc (vs.getD a.toNat (ai, ai))).map A.d := by
 have := tv (f := qc) (k := 12) xx (ai, ai) vs a.toNat h1
 rw [Int.toNat_natCast] at this
 exact this
theorem aag (vs : List Rq) (r : Rq) : fa qc vs ++ (qc r).map A.d = fa qc (vs ++ [r]) := by
 unfold fa; rw [List.flatMap_append, List.map_append]; simp
def a0a (o : Option (List Rq)) : D := match o with
 | some vs => .tup [rqD (vs.getD (vs.length - 1) (ai, ai)), .bool true]
 | none => .tup [.agg [.bool false, sl [], .int .i64 0, .bool false, sl [], .int .i64 0, .bool false, sl [], .int .i64 0, .bool false, sl [], .int .i64 0], .bool false]
theorem a0b (o : Option (List Rq)) : (a0a o).sc = false := by cases o <;> rfl
end Go.Ev.Ar

namespace Go.Ev.Ar
open Go Go.Ev Go.Proofs
def tc (a : Cq) : Cr := ⟨a.1.toRat, a.2.toRat⟩
theorem oy (a b : Cq) : tc (ar a b) = tc a * tc b := by
 apply Cr.ext
 ·show (a.1 * b.1 - a.2 * b.2).toRat = a.1.toRat * b.1.toRat - a.2.toRat * b.2.toRat
  rw [show a.1 * b.1 - a.2 * b.2 = a.1 * b.1 + -(a.2 * b.2) by grind, zu, uh, eo, eo]; grind
 ·show (a.1 * b.2 + a.2 * b.1).toRat = a.1.toRat * b.2.toRat + a.2.toRat * b.1.toRat
  rw [zu, eo, eo]
theorem ahj (a b : Cq) : tc (a.1 + b.1, a.2 + b.2) = tc a + tc b := by
 apply Cr.ext
 ·exact zu _ _
 ·exact zu _ _
theorem ay8 (a : Cq) : tc (-a.1, -a.2) = - tc a := by
 apply Cr.ext
 ·exact uh _
 ·exact uh _
theorem a4e (a b : Cq) : tc (a.1 - b.1, a.2 - b.2) = tc a - tc b := by
 have e : ((a.1 - b.1, a.2 - b.2) : Cq) = (a.1 + (-b.1, -b.2).1, a.2 + (-b.1, -b.2).2) := by
  dsimp only; congr 1 <;> grind
 rw [e, ahj a (-b.1, -b.2), ay8]; grind
theorem aqu {a b : Cq} (h : tc a = tc b) : a = b :=
 Prod.ext (Dyadic.toRat_inj.1 (congrArg Cr.re h)) (Dyadic.toRat_inj.1 (congrArg Cr.im h))
theorem p6 : tc (0, 0) = 0 := by
 apply Cr.ext
 ·exact fq
 ·exact fq
theorem aqv : tc ai = 1 := by
 apply Cr.ext
 ·show (1 : Dyadic).toRat = ((1 : Nat) : Rat); decide
 ·exact fq
theorem a5k {a : Cq} (h : a ≠ (0, 0)) : tc a ≠ 0 := fun g => h (aqu (g.trans p6.symm))
theorem a2x {c : Cr} (h : c ≠ 0) : ∃ d, c * d = 1 := by
 have n0 : c.re * c.re + c.im * c.im ≠ 0 := fun g => by
  have sq : ∀ r : Rat, 0 ≤ r * r := fun r => by
   rcases Classical.em (0 ≤ r) with g | g
   ·exact Rat.mul_nonneg g g
   ·have := Rat.mul_nonneg (show 0 ≤ -r by grind) (show 0 ≤ -r by grind); grind
  have s1 := sq c.re
  have s2 := sq c.im
  have z1 : c.re * c.re = 0 := by grind
  have z2 : c.im * c.im = 0 := by grind
  have y1 : c.re = 0 := by grind
  have y2 : c.im = 0 := by grind
  exact h (Cr.ext y1 y2)
 refine ⟨⟨c.re * (c.re * c.re + c.im * c.im)⁻¹, - (c.im * (c.re * c.re + c.im * c.im)⁻¹)⟩, ?_⟩
 have i := Rat.mul_inv_cancel _ n0
 apply Cr.ext
 ·show c.re * (c.re * (c.re * c.re + c.im * c.im)⁻¹) - c.im * -(c.im * (c.re * c.re + c.im * c.im)⁻¹) = ((1 : Nat) : Rat)
  generalize (c.re * c.re + c.im * c.im)⁻¹ = d at *
  have : ((1 : Nat) : Rat) = 1 := rfl
  grind
 ·show c.re * -(c.im * (c.re * c.re + c.im * c.im)⁻¹) + c.im * (c.re * (c.re * c.re + c.im * c.im)⁻¹) = 0
  generalize (c.re * c.re + c.im * c.im)⁻¹ = d at *
  grind
structure Vl (p : Rq) (v : Cr) : Prop where
 ne : p.2 ≠ (0, 0)
 eq : tc p.1 = v * tc p.2
theorem Vl.times {p q : Rq} {u v : Cr} (h : Vl p u) (k : Vl q v) : Vl (mw p q) (u * v) := by
 refine ⟨me h.ne k.ne, ?_⟩
 have e1 := h.eq
 have e2 := k.eq
 show tc (ar p.1 q.1) = u * v * tc (ar p.2 q.2)
 rw [oy, oy, e1, e2]; grind
theorem Vl.a5b {p q : Rq} {u v : Cr} (h : Vl p u) (k : Vl q v) : Vl (adf p q) (u + v) := by
 refine ⟨me h.ne k.ne, ?_⟩
 have e1 := h.eq
 have e2 := k.eq
 show tc ((ar p.1 q.2).1 + (ar q.1 p.2).1, (ar p.1 q.2).2 + (ar q.1 p.2).2) = (u + v) * tc (ar p.2 q.2)
 rw [ahj, oy, oy, oy, e1, e2]; grind
theorem Vl.a5t {p q : Rq} {u v : Cr} (h : Vl p u) (k : Vl q v) : Vl (ai9 p q) (u - v) := by
 refine ⟨me h.ne k.ne, ?_⟩
 have e1 := h.eq
 have e2 := k.eq
 show tc ((ar p.1 q.2).1 - (ar q.1 p.2).1, (ar p.1 q.2).2 - (ar q.1 p.2).2) = (u - v) * tc (ar p.2 q.2)
 rw [a4e, oy, oy, oy, e1, e2]; grind
theorem Vl.zero {p : Rq} {u : Cr} (h : Vl p u) : p.1 = (0, 0) ↔ u = 0 := by
 constructor
 ·intro g
  have e := h.eq
  rw [g, p6] at e
  obtain ⟨d, hd⟩ := a2x (a5k h.ne)
  have : u = u * (tc p.2 * d) := by rw [hd]; grind
  rw [this]; grind
 ·intro g
  have e := h.eq
  rw [g] at e
  exact aqu (by rw [e, p6]; grind)
theorem Vl.a5m {q : Rq} {v d : Cr} (k : Vl q v) (hd : v * d = 1) : Vl (q.2, q.1) d := by
 refine ⟨fun g => ?_, ?_⟩
 ·have := k.zero.1 g
  rw [this] at hd
  have h0 : (0 : Cr) = 1 := by grind
  have := congrArg Cr.re h0
  exact absurd this (by decide)
 ·show tc q.2 = d * tc q.1
  rw [k.eq]; grind
theorem Vl.alike {p q : Rq} {u : Cr} (h : Vl p u) (k : Vl q u) : ajr p q = true := by
 refine decide_eq_true (aqu ?_)
 rw [oy, oy, h.eq, k.eq]; grind
end Go.Ev.Ar

namespace Go.Ev.Ar
open Go Go.Ev Go.Proofs
structure Sv (ps rs : List Rq) : Prop where
 len : rs.length = ps.length
 v : ∀ j, j < ps.length → ∃ v, Vl (ps.getD j (ai, ai)) v ∧ Vl (rs.getD j (ai, ai)) v
theorem Sv.add {ps rs : List Rq} {p r : Rq} {v : Cr} (h : Sv ps rs) (hp : Vl p v) (hr : Vl r v) : Sv (ps ++ [p]) (rs ++ [r]) := by
 refine ⟨by simp [h.len], fun j hj => ?_⟩
 rw [List.length_append] at hj
 have : j < ps.length ∨ j = ps.length := by simp at hj; omega
 rcases this with g | rfl
 ·rw [n4 g, n4 (by rw [h.len]; exact g)]; exact h.v j g
 ·have e : (rs ++ [r]).getD ps.length (ai, ai) = r := by rw [← h.len, gf]
  rw [gf, e]; exact ⟨v, hp, hr⟩
theorem alm (c : Cq) : Vl (c, ai) (tc c) := ⟨by show ai ≠ (0, 0); decide, by show tc c = tc c * tc ai; rw [aqv]; grind⟩
end Go.Ev.Ar

namespace Go.Ev.Ar
open Go Go.Ev Go.Proofs
theorem ai0 : (1 : Dyadic).toRat = 1 := by rfl
theorem aep (j : Nat) : (dof (j : Int) 0).toRat = ((j : Nat) : Rat) := by
 rw [lq, Rat.zpow_zero, Rat.mul_one]; rfl
theorem aw6 (z : Cq) : g0 z 2 = ((wu z).1 * (wu z).1, (wu z).2 * (wu z).2) := by
 unfold g0
 rw [show kb 2 = 2 by decide, if_pos (by decide)]
 have e : ∀ p : Dyadic, p ^ 2 = p * p := fun p => by grind
 rw [e, e]
def a2f (z : Rq) (c : Cr) : Prop := a32 z.1 c.re ∧ a32 z.2 c.im
def a4u (z : Cq) (j : Nat) (wp : Int) : Cq := kd (b8 z (uc (dof j 0, dof j 0) wp)) wp
theorem awg {j : Nat} (hj : 0 < j) : (0 : Dyadic) < dof j 0 := pd.2 (by omega)
def unR : Rq := ((1, 1), (0, 0))
def hst (y out : Rq) (wp : Int) (j : Nat) : Rq := ada unR (a4u (iw y out).1 j wp, a4u (iw y out).2 j wp)
def hrn (y : Rq) (wp : Int) : Nat → Rq → Rq
 | 0, out => out
 | j + 1, out => hrn y wp j (hst y out wp (j + 1))
def azr (o : Rq) (im : Bool) (r : Dyadic) : Rq := (js o.1 (-r, r), if im then js o.2 (-r, r) else o.2)
def sqn (wp : Int) : Nat → Rq → Rq
 | 0, z => z
 | k + 1, z => bn (rsq (sqn wp k z)) wp
def a5l (wp : Int) : Nat := (wp / 10 + 2).toNat
def a5y (wp : Int) : Dyadic := dof 1 (1 - 10 * ((a5l wp : Int) + 1))
def a5x (y : Rq) (im : Bool) (wp : Int) : Rq := azr (hrn y wp (a5l wp) unR) im (a5y wp)
def trn (y : Rq) (im : Bool) (wp : Int) : Rq := sqn wp 16 (a5x y im wp)
end Go.Ev.Ar

namespace Go.Ev.Ar
open Go Go.Ev Go.Proofs
structure Du where
 a : Cr
 b : Cr
theorem Du.ext {x y : Du} (h1 : x.a = y.a) (h2 : x.b = y.b) : x = y := by cases x; cases y; cases h1; cases h2; rfl
def dcn (c : Cr) : Du := ⟨c, 0⟩
def duA (x y : Du) : Du := ⟨x.a + y.a, x.b + y.b⟩
def duN (x : Du) : Du := ⟨-x.a, -x.b⟩
def duM (x y : Du) : Du := ⟨x.a * y.a, x.a * y.b + x.b * y.a⟩
theorem we (x : Du) : duA x (dcn 0) = x := Du.ext (by show x.a + 0 = x.a; grind) (by show x.b + 0 = x.b; grind)
theorem awj (x y : Du) : duA x y = duA y x := Du.ext (by show x.a + y.a = y.a + x.a; grind) (by show x.b + y.b = y.b + x.b; grind)
theorem al6 (x y z : Du) : duA (duA x y) z = duA x (duA y z) := Du.ext (by show x.a + y.a + z.a = x.a + (y.a + z.a); grind) (by show x.b + y.b + z.b = x.b + (y.b + z.b); grind)
theorem tp (x y : Du) : duM x y = duM y x := Du.ext (by show x.a * y.a = y.a * x.a; grind) (by show x.a * y.b + x.b * y.a = y.a * x.b + y.b * x.a; grind)
theorem afy (x y z : Du) : duM (duM x y) z = duM x (duM y z) := Du.ext (by show x.a * y.a * z.a = x.a * (y.a * z.a); grind) (by show x.a * y.a * z.b + (x.a * y.b + x.b * y.a) * z.a = x.a * (y.a * z.b + y.b * z.a) + x.b * (y.a * z.a); grind)
theorem arf (x : Du) : duM x (dcn 1) = x := Du.ext (by show x.a * 1 = x.a; grind) (by show x.a * 0 + x.b * 1 = x.b; grind)
theorem wg (x : Du) : duM x (dcn 0) = dcn 0 := Du.ext (by show x.a * 0 = 0; grind) (by show x.a * 0 + x.b * 0 = 0; grind)
theorem al7 (x y z : Du) : duM x (duA y z) = duA (duM x y) (duM x z) := Du.ext (by show x.a * (y.a + z.a) = x.a * y.a + x.a * z.a; grind) (by show x.a * (y.b + z.b) + x.b * (y.a + z.a) = x.a * y.b + x.b * y.a + (x.a * z.b + x.b * z.a); grind)
theorem a21 (x y z : Du) : duM (duA x y) z = duA (duM x z) (duM y z) := by rw [tp, al7, tp z x, tp z y]
theorem a4v (x y z w : Du) : duA (duA x y) (duA z w) = duA (duA x z) (duA y w) := Du.ext (by show x.a + y.a + (z.a + w.a) = x.a + z.a + (y.a + w.a); grind) (by show x.b + y.b + (z.b + w.b) = x.b + z.b + (y.b + w.b); grind)
theorem aq9 (x y : Cr) : dcn (x + y) = duA (dcn x) (dcn y) := Du.ext rfl (by show (0 : Cr) = 0 + 0; grind)
theorem az0 (x y : Cr) : dcn (x * y) = duM (dcn x) (dcn y) := Du.ext rfl (by show (0 : Cr) = x * 0 + 0 * y; grind)
theorem az1 (x : Cr) : dcn (-x) = duN (dcn x) := Du.ext rfl (by show (0 : Cr) = -0; grind)
theorem a4x (x y : Du) : duM (duN x) y = duN (duM x y) := Du.ext (by show -x.a * y.a = -(x.a * y.a); grind) (by show -x.a * y.b + -x.b * y.a = -(x.a * y.b + x.b * y.a); grind)
theorem a4w (x y : Du) : duN (duA x y) = duA (duN x) (duN y) := Du.ext (by show -(x.a + y.a) = -x.a + -y.a; grind) (by show -(x.b + y.b) = -x.b + -y.b; grind)
def duP (x : Du) : Nat → Du
 | 0 => dcn 1
 | n + 1 => duM (duP x n) x
def aj3 (x : Cr) : Nat → Cr
 | 0 => 1
 | n + 1 => aj3 x n * x
theorem arh (x : Du) : ∀ n, (duP x n).a = aj3 x.a n
 | 0 => rfl
 | n + 1 => by show (duP x n).a * x.a = aj3 x.a n * x.a; rw [arh x n]
theorem arj (x : Du) : ∀ n, (duP x (n + 1)).b = Cr.ofQ ((n + 1 : Nat) : Rat) * aj3 x.a n * x.b
 | 0 => by
  show (1 : Cr) * x.b + 0 * x.a = Cr.ofQ ((0 + 1 : Nat) : Rat) * 1 * x.b
  have : Cr.ofQ ((0 + 1 : Nat) : Rat) = 1 := rfl
  rw [this]; grind
 | n + 1 => by
  show (duP x (n + 1)).a * x.b + (duP x (n + 1)).b * x.a = _
  rw [arj x n, arh]
  have e : Cr.ofQ ((n + 1 + 1 : Nat) : Rat) = Cr.ofQ ((n + 1 : Nat) : Rat) + 1 := by
   apply Cr.ext
   ·show ((n + 1 + 1 : Nat) : Rat) = ((n + 1 : Nat) : Rat) + 1
    rw [Rat.natCast_add (n + 1) 1]; rfl
   ·show (0 : Rat) = 0 + 0
    grind
  rw [e]
  show aj3 x.a n * x.a * x.b + _ = _ * (aj3 x.a n * x.a) * x.b
  grind
def pev : List Cq → Du → Du
 | [], _ => dcn 0
 | c :: p, z => duA (dcn (tc c)) (duM z (pev p z))
theorem ab0 (z : Du) : ∀ (p q : List Cq), pev (p ++ q) z = duA (pev p z) (duM (duP z p.length) (pev q z))
 | [], q => by
  show pev q z = duA (dcn 0) (duM (dcn 1) (pev q z))
  rw [tp, arf, awj, we]
 | c :: p, q => by
  show duA (dcn (tc c)) (duM z (pev (p ++ q) z)) = duA (duA (dcn (tc c)) (duM z (pev p z))) (duM (duM (duP z p.length) z) (pev q z))
  rw [ab0 z p q, al7, al6, tp (duP z p.length) z, afy]
theorem ac7 (z : Du) : ∀ n, pev (List.replicate n ((0, 0) : Cq)) z = dcn 0
 | 0 => rfl
 | n + 1 => by
  rw [List.replicate_succ]
  show duA (dcn (tc (0, 0))) (duM z (pev (List.replicate n (0, 0)) z)) = _
  rw [ac7 z n, p6, wg, we]
abbrev c0 : Cq := (0, 0)
def o8 (a b : Cq) : Cq := (a.1 + b.1, a.2 + b.2)
def aov (a : Cq) : Cq := (-a.1, -a.2)
theorem asm (z : Du) (d : Cq) : ∀ (p : List Cq) (j : Nat), j < p.length → pev (p.set j (o8 (p.getD j c0) d)) z = duA (pev p z) (duM (dcn (tc d)) (duP z j))
 | [], j, h => absurd h (by simp)
 | c :: p, 0, h => by
  show duA (dcn (tc (o8 c d))) (duM z (pev p z)) = duA (duA (dcn (tc c)) (duM z (pev p z))) (duM (dcn (tc d)) (dcn 1))
  rw [show tc (o8 c d) = tc c + tc d from ahj c d, aq9, arf, al6, al6, awj (dcn (tc d))]
 | c :: p, j + 1, h => by
  have ih := asm z d p j (by simpa using h)
  show duA (dcn (tc c)) (duM z (pev (p.set j (o8 (p.getD j c0) d)) z)) = duA (duA (dcn (tc c)) (duM z (pev p z))) (duM (dcn (tc d)) (duM (duP z j) z))
  rw [ih, al7, al6]
  congr 2
  rw [tp z (duM _ _), afy]
def aap (p : List Cq) : Nat → Nat
 | 0 => 0
 | n + 1 => if p.getD n c0 = c0 then aap p n else n + 1
def j9 (p : List Cq) : List Cq := p.take (aap p p.length)
theorem ajh (p : List Cq) : ∀ n j, aap p n ≤ j → j < n → p.getD j c0 = c0
 | n + 1, j, h, g => by
  unfold aap at h
  split at h
  ·rename_i e
   rcases Nat.lt_succ_iff_lt_or_eq.1 g with k | rfl
   ·exact ajh p n j h k
   ·exact e
  ·omega
theorem ab1 (z : Du) (p : List Cq) : pev (j9 p) z = pev p z := by
 have h : p.drop (aap p p.length) = List.replicate (p.length - aap p p.length) c0 := by
  apply List.ext_getElem
  ·simp
  ·intro i h1 h2
   have := ajh p p.length (aap p p.length + i) (by omega) (by simp at h1; omega)
   rw [List.getElem_drop, List.getElem_replicate]
   rw [List.getD_eq_getElem?_getD, List.getElem?_eq_getElem (by simp at h1; omega)] at this
   exact this
 have := ab0 z (j9 p) (p.drop (aap p p.length))
 rw [h, ac7, wg, we] at this
 rw [← this]
 unfold j9
 rw [← h, List.take_append_drop]
def w7 (p q : List Cq) (n : Nat) : List Cq := (List.range n).map fun i => o8 (p.getD i c0) (q.getD i c0)
def ov (p q : List Cq) : List Cq := j9 (w7 p q (max p.length q.length))
theorem ahz (p q : List Cq) (n : Nat) : w7 p q (n + 1) = w7 p q n ++ [o8 (p.getD n c0) (q.getD n c0)] := by unfold w7; rw [List.range_succ, List.map_append]; rfl
theorem te (p q : List Cq) (n : Nat) : (w7 p q n).length = n := by simp [w7]
theorem ac6 (z : Du) (p : List Cq) (n : Nat) : pev (p.take (n + 1)) z = duA (pev (p.take n) z) (duM (duP z n) (dcn (tc (p.getD n c0)))) := by
 by_cases h : n < p.length
 ·rw [List.take_succ_eq_append_getElem h, ab0, List.length_take, Nat.min_eq_left (by omega)]
  congr 2
  show duA (dcn (tc p[n])) (duM z (dcn 0)) = _
  rw [wg, we, List.getD_eq_getElem?_getD, List.getElem?_eq_getElem h]; rfl
 ·rw [List.take_of_length_le (by omega), List.take_of_length_le (by omega), List.getD_eq_getElem?_getD, List.getElem?_eq_none (by omega)]
  show _ = duA _ (duM _ (dcn (tc (0, 0))))
  rw [p6, wg, we]
theorem am8 (z : Du) (p q : List Cq) : ∀ n, pev (w7 p q n) z = duA (pev (p.take n) z) (pev (q.take n) z)
 | 0 => by show dcn 0 = duA (dcn 0) (dcn 0); rw [we]
 | n + 1 => by
  rw [ahz, ab0, am8 z p q n, te, ac6, ac6]
  show duA _ (duM _ (duA (dcn (tc (o8 (p.getD n c0) (q.getD n c0)))) (duM z (dcn 0)))) = _
  rw [wg, we, show tc (o8 (p.getD n c0) (q.getD n c0)) = _ from ahj _ _, aq9, al7, a4v]
theorem asg (z : Du) (p q : List Cq) : pev (ov p q) z = duA (pev p z) (pev q z) := by
 unfold ov
 rw [ab1, am8, List.take_of_length_le (by omega), List.take_of_length_le (by omega)]
def j7 (p : List Cq) : List Cq := p.map aov
theorem asj (z : Du) : ∀ p, pev (j7 p) z = duN (pev p z)
 | [] => by show dcn 0 = duN (dcn 0); exact Du.ext (by show (0 : Cr) = -0; grind) (by show (0 : Cr) = -0; grind)
 | c :: p => by
  show duA (dcn (tc (aov c))) (duM z (pev (j7 p) z)) = duN (duA (dcn (tc c)) (duM z (pev p z)))
  rw [asj z p, show tc (aov c) = - tc c from ay8 c, az1, a4w, tp, a4x, tp z]
def mulR (c : Cq) (q : List Cq) (i : Nat) (out : List Cq) : Nat → List Cq
 | 0 => out
 | k + 1 => (mulR c q i out k).set (i + k) (o8 ((mulR c q i out k).getD (i + k) c0) (ar c (q.getD k c0)))
def l8 (p q : List Cq) : Nat → List Cq
 | 0 => List.replicate (p.length + q.length - 1) c0
 | i + 1 => mulR (p.getD i c0) q i (l8 p q i) q.length
def oo (p q : List Cq) : List Cq := if p.length = 0 ∨ q.length = 0 then [] else j9 (l8 p q p.length)
theorem abp (c : Cq) (q : List Cq) (i : Nat) (out : List Cq) : ∀ k, (mulR c q i out k).length = out.length
 | 0 => rfl
 | k + 1 => by unfold mulR; rw [List.length_set, abp c q i out k]
theorem abo (p q : List Cq) : ∀ i, (l8 p q i).length = p.length + q.length - 1
 | 0 => by simp [l8]
 | i + 1 => by unfold l8; rw [abp, abo p q i]
theorem ari (z : Du) (i : Nat) : ∀ k, duP z (i + k) = duM (duP z i) (duP z k)
 | 0 => by show duP z i = duM (duP z i) (dcn 1); rw [arf]
 | k + 1 => by show duM (duP z (i + k)) z = duM (duP z i) (duM (duP z k) z); rw [ari z i k, afy]
theorem anb (z : Du) (c : Cq) (q : List Cq) (i : Nat) (out : List Cq) (h : i + q.length ≤ out.length) : ∀ k, k ≤ q.length → pev (mulR c q i out k) z = duA (pev out z) (duM (duM (dcn (tc c)) (duP z i)) (pev (q.take k) z))
 | 0, _ => by show pev out z = duA (pev out z) (duM _ (dcn 0)); rw [wg, we]
 | k + 1, hk => by
  unfold mulR
  rw [asm z _ _ _ (by rw [abp]; omega), anb z c q i out h k (by omega), ac6, al7, ← al6, show tc (ar c (q.getD k c0)) = _ from oy _ _, az0, ari]
  congr 1
  rw [afy, afy]
  congr 1
  rw [← afy, tp (dcn (tc (q.getD k c0))), afy, tp (dcn (tc (q.getD k c0)))]
theorem ana (z : Du) (p q : List Cq) (hp : p.length ≠ 0) (hq : q.length ≠ 0) : ∀ i, i ≤ p.length → pev (l8 p q i) z = duM (pev (p.take i) z) (pev q z)
 | 0, _ => by
  unfold l8
  rw [ac7]
  show dcn 0 = duM (dcn 0) (pev q z)
  rw [tp, wg]
 | i + 1, h => by
  unfold l8
  rw [anb z _ q i _ (by rw [abo]; omega) q.length (Nat.le_refl _), ana z p q hp hq i (by omega), List.take_of_length_le (Nat.le_refl _), ac6, a21, tp (duP z i)]
theorem asi (z : Du) (p q : List Cq) : pev (oo p q) z = duM (pev p z) (pev q z) := by
 unfold oo
 split
 ·rename_i h
  rcases h with h | h
  ·rw [List.length_eq_zero_iff.1 h]
   show dcn 0 = duM (dcn 0) _
   rw [tp, wg]
  ·rw [List.length_eq_zero_iff.1 h]
   show dcn 0 = duM _ (dcn 0)
   rw [wg]
 ·rename_i h
  rw [ab1, ana z p q (by omega) (by omega) _ (Nat.le_refl _), List.take_of_length_le (Nat.le_refl _)]
def xd (p : List Cq) (n : Nat) : List Cq := (List.range n).map fun i => ((p.getD (i + 1) c0).1 * dof ((i : Int) + 1) 0, (p.getD (i + 1) c0).2 * dof ((i : Int) + 1) 0)
def zj (p : List Cq) : List Cq := j9 (xd p (p.length - 1))
theorem ah7 (p : List Cq) (n : Nat) : xd p (n + 1) = xd p n ++ [((p.getD (n + 1) c0).1 * dof ((n : Int) + 1) 0, (p.getD (n + 1) c0).2 * dof ((n : Int) + 1) 0)] := by unfold xd; rw [List.range_succ, List.map_append]; rfl
theorem xe (p : List Cq) (n : Nat) : (xd p n).length = n := by simp [xd]
theorem ay9 (c : Cq) (n : Nat) : tc (c.1 * dof ((n : Int) + 1) 0, c.2 * dof ((n : Int) + 1) 0) = Cr.ofQ ((n + 1 : Nat) : Rat) * tc c := by
 have e : (dof ((n : Int) + 1) 0).toRat = ((n + 1 : Nat) : Rat) := aep (n + 1)
 apply Cr.ext
 ·show (c.1 * dof ((n : Int) + 1) 0).toRat = ((n + 1 : Nat) : Rat) * c.1.toRat - 0 * c.2.toRat
  rw [eo, e]; grind
 ·show (c.2 * dof ((n : Int) + 1) 0).toRat = ((n + 1 : Nat) : Rat) * c.2.toRat + 0 * c.1.toRat
  rw [eo, e]; grind
theorem ash (z : Cr) (p : List Cq) : ∀ n, (pev (xd p n) ⟨z, 0⟩).a = (pev (p.take (n + 1)) ⟨z, 1⟩).b
 | 0 => by
  rw [ac6]
  show (0 : Cr) = 0 + (1 * 0 + 0 * tc (p.getD 0 c0))
  grind
 | n + 1 => by
  rw [ah7, ab0, ac6]
  show (pev (xd p n) ⟨z, 0⟩).a + (duP ⟨z, 0⟩ (xd p n).length).a * (tc _ + z * 0) = (pev (p.take (n + 1)) ⟨z, 1⟩).b + ((duP ⟨z, 1⟩ (n + 1)).a * 0 + (duP ⟨z, 1⟩ (n + 1)).b * tc (p.getD (n + 1) c0))
  rw [ash z p n, ay9, xe, arj, arh]
  grind
theorem ax4 (z : Cr) (p : List Cq) : (pev (zj p) ⟨z, 0⟩).a = (pev p ⟨z, 1⟩).b := by
 unfold zj
 rw [ab1, ash]
 by_cases h : p.length = 0
 ·rw [List.length_eq_zero_iff.1 h]; rfl
 ·rw [List.take_of_length_le (by omega)]
def rl (p : List Cq) (z : Cq) : Nat → Cq
 | 0 => c0
 | k + 1 => o8 (ar (rl p z k) z) (p.getD (p.length - 1 - k) c0)
theorem am9 (p : List Cq) (z : Cq) : ∀ k, k ≤ p.length → tc (rl p z k) = (pev (p.drop (p.length - k)) ⟨tc z, 0⟩).a
 | 0, _ => by
  rw [Nat.sub_zero, List.drop_eq_nil_of_le (Nat.le_refl _)]
  exact p6
 | k + 1, h => by
  have e : p.drop (p.length - (k + 1)) = p.getD (p.length - 1 - k) c0 :: p.drop (p.length - k) := by
   have h1 : p.length - (k + 1) < p.length := by omega
   rw [List.drop_eq_getElem_cons h1, show p.length - (k + 1) + 1 = p.length - k by omega]
   congr 1
   rw [List.getD_eq_getElem?_getD, List.getElem?_eq_getElem (by omega)]
   show _ = p[p.length - 1 - k]
   congr 1; omega
  rw [e]
  show tc (o8 (ar (rl p z k) z) (p.getD (p.length - 1 - k) c0)) = tc (p.getD (p.length - 1 - k) c0) + tc z * (pev (p.drop (p.length - k)) ⟨tc z, 0⟩).a
  rw [show tc (o8 (ar (rl p z k) z) (p.getD (p.length - 1 - k) c0)) = _ from ahj _ _, oy, am9 p z k (by omega)]
  grind
def atP (p : List Cq) (z : Cq) : Cq := rl p z p.length
theorem a3y (p : List Cq) (z : Cq) : tc (atP p z) = (pev p ⟨tc z, 0⟩).a := by
 have := am9 p z p.length (Nat.le_refl _)
 rw [Nat.sub_self, List.drop_zero] at this
 exact this
end Go.Ev.Ar
