/- Contracts of the given functions, on data. Conditions stand in each theorem. -/
import Derived.ScopeJumps
import Derived.Test.YtagjickjfjgfpaaGreatDoorHEvR
import Derived.Test.YtagjickjfjgfpaaGreatDoorHAvNatD
import Derived.Test.YtagjickjfjgfpaaGreatDoorHAvRefA
import Derived.Test.YtagjickjfjgfpaaGreatDoorHEvK
import Derived.Test.YtagjickjfjgfpaaGreatDoorHEvW
set_option linter.unusedSimpArgs false
set_option linter.unusedVariables false
namespace Go.Ev.Ar
open Go Go.Ev Go.Proofs
def kq (b : Bool) (l : List UInt32) (e : Int) : Bool := kj l && (decide (0 < l.length) || !b) && decide (-20000 ≤ e) && decide (e ≤ 20000) && (if l.length = 0 then decide (e = 0) else decide ((l.getD 0 0).toNat % 2 = 1))
theorem yx {b : Bool} {l : List UInt32} {e : Int} (h : (kj l && (decide (0 < l.length) || !b)) = false ∨ e < -20000 ∨ 20000 < e) : kq b l e = false := by
 unfold kq
 rcases h with h | h | h
 ·rw [h]; rfl
 ·rw [decide_eq_false (show ¬ -20000 ≤ e by omega)]; simp
 ·rw [decide_eq_false (show ¬ e ≤ 20000 by omega)]; simp
theorem amk {b : Bool} {l : List UInt32} {e : Int} (h : (kj l && (decide (0 < l.length) || !b)) = true) (h1 : ¬ e < -20000) (h2 : ¬ e > 20000) (h3 : l.length = 0) : kq b l e = decide (e = 0) := by
 unfold kq
 rw [h, decide_eq_true (show -20000 ≤ e by omega), decide_eq_true (show e ≤ 20000 by omega), if_pos h3]; rfl
theorem aml {b : Bool} {l : List UInt32} {e : Int} (h : (kj l && (decide (0 < l.length) || !b)) = true) (h1 : ¬ e < -20000) (h2 : ¬ e > 20000) (h3 : ¬ l.length = 0) : kq b l e = decide ((l.getD 0 0).toNat % 2 = 1) := by
 unfold kq
 rw [h, decide_eq_true (show -20000 ≤ e by omega), decide_eq_true (show e ≤ 20000 by omega), if_neg h3]; rfl
theorem aen (b : Bool) (l : List UInt32) (e : Int) (hl : l.length < 2^32) : Sim Tryz.prog G0 true 158 [.agg [.bool b, sl l, .int .i64 e]] (.bool (kq b l e)) := by
 have hs := a15 (b := b) hl
 have hx := bd (l.getD (Int.toNat 0) 0)
 refine ao af Tryz.func158 ?_
 repeat' ((conv => whnf); first | with_reducible refine ag.data ?_ | refine aa.mk _ _ (hs) ?_ | refine rgE ?_ | refine Cd.mk rfl ?_ | refine Br.t ?_ | refine Br.f ?_ | with_reducible refine Br.dec (fun _ => ?_) (fun _ => ?_) | refine Br.mk (fun _ => ?_) (fun _ => ?_) | refine ah.mk _ (dw _ _ (by omega)) ?_ | refine ah.mk _ rfl ?_ | (refine TkE.fL ?_; (conv => whnf); fail_if_success (show ae _ _)) | refine Res.mk ?_ | ((with_reducible refine EqE.idW ?_); with_reducible refine EqE.mk _ (y0 _ (by omega)) ?_) | refine Cd.om ?_)
 all_goals show D.bool _ = D.bool _
 ·rename_i h
  rw [yx (.inl (by rw [Bool.not_eq_true'] at h; exact h))]
 ·rename_i h h2
  rw [yx (.inr (.inl h2))]
 ·rename_i h h2 h3
  rw [yx (.inr (.inr h3))]
 ·rename_i h h2 h3 h4
  rw [amk (by rw [Bool.not_eq_false'] at h; exact h) h2 h3 (by omega)]
 ·rename_i h h2 h3 h4
  rw [aml (by rw [Bool.not_eq_false'] at h; exact h) h2 h3 (by omega)]
  exact congrArg D.bool (decide_eq_decide.2 (by show (l.getD 0 0).toNat % 2 = 1 ↔ (((l.getD 0 0).toNat % 2 : Nat) : Int) = 1; omega))
theorem as0 (b : Bool) (l : List UInt32) (e : Int) (hl : l.length ≤ 4194304) : Sim Tryz.prog G0 true 101 [.agg [.bool b, sl l, .int .i64 e]] (.bool (kq b l e)) := by
 have hs := aqd (b := b) hl
 have hx := bd (l.getD (Int.toNat 0) 0)
 refine ao af Tryz.func101 ?_
 repeat' ((conv => whnf); first | with_reducible refine ag.data ?_ | refine aa.mk _ _ (hs) ?_ | refine rgE ?_ | refine Cd.mk rfl ?_ | refine Br.t ?_ | refine Br.f ?_ | with_reducible refine Br.dec (fun _ => ?_) (fun _ => ?_) | refine Br.mk (fun _ => ?_) (fun _ => ?_) | refine ah.mk _ (dw _ _ (by omega)) ?_ | refine ah.mk _ rfl ?_ | (refine TkE.fL ?_; (conv => whnf); fail_if_success (show ae _ _)) | refine Res.mk ?_ | ((with_reducible refine EqE.idW ?_); with_reducible refine EqE.mk _ (y0 _ (by omega)) ?_) | refine Cd.om ?_)
 all_goals show D.bool _ = D.bool _
 ·rename_i h
  rw [yx (.inl (by rw [Bool.not_eq_true'] at h; exact h))]
 ·rename_i h h2
  rw [yx (.inr (.inl h2))]
 ·rename_i h h2 h3
  rw [yx (.inr (.inr h3))]
 ·rename_i h h2 h3 h4
  rw [amk (by rw [Bool.not_eq_false'] at h; exact h) h2 h3 (by omega)]
 ·rename_i h h2 h3 h4
  rw [aml (by rw [Bool.not_eq_false'] at h; exact h) h2 h3 (by omega)]
  exact congrArg D.bool (decide_eq_decide.2 (by show (l.getD 0 0).toNat % 2 = 1 ↔ (((l.getD 0 0).toNat % 2 : Nat) : Int) = 1; omega))
def dyA (q : Dyadic) : List A := [.d (.bool (a7 (ak q))), .d (sl (ofN (ak q).natAbs)), .d (.int .i64 (av q))]
def zeA : List A := [.d (.bool false), .d .nil, .d (.int .i64 0)]
theorem aoj (n : Int) (k : Nat) (h : n.natAbs ≤ 1000) (hk : 64 ≤ k) : Zt k n := .small (by omega) hk
theorem amj (q : Dyadic) (h1 : -20000 ≤ av q) (h2 : av q ≤ 20000) : kq (a7 (ak q)) (ofN (ak q).natAbs) (av q) = true := by
 unfold kq
 have h3 := bp (n := (ak q).natAbs)
 rw [p9, decide_eq_true h1, decide_eq_true h2]
 by_cases h : q = 0
 ·subst h; rw [yn, ah8, show Int.natAbs 0 = 0 from rfl, bh]; rfl
 ·have h4 : ak q ≠ 0 := fun e => h (fh.1 e)
  have h5 := al3 h
  rw [if_neg (by omega), decide_eq_true (show 0 < (ofN (ak q).natAbs).length by omega), abu, aw, aei, Nat.div_one, decide_eq_true (by omega)]; rfl
theorem a20 {q : Dyadic} (hq : Ht 20000 q) : Sim Tryz.prog G0 true 158 [dyD q] (.bool true) := by
 obtain ⟨h1, h2, h3⟩ := hq.parts
 have h := aen (a7 (ak q)) (ofN (ak q).natAbs) (av q) (Nat.lt_of_le_of_lt (h1.len (k := 65536) (by decide)) (by decide))
 rw [amj q (by omega) (by omega)] at h
 exact h
theorem cz {n : Int} (h : decide (n.natAbs ≤ 1000) = true) : ZR (zD n) n ∧ Zt 134217728 n := ⟨.of (aoj n _ (of_decide_eq_true h) (by decide)), aoj n _ (of_decide_eq_true h) (by decide)⟩
end Go.Ev.Ar

namespace Go.Ev.Ar
open Go Go.Ev Go.Proofs
structure Nd where
 k : Int
 a : Int
 b : Int
 n : Int
 r : RC
def Nd.cells (x : Nd) : List D := [.int .i64 x.k, .int .i64 x.a, .int .i64 x.b, .int .i64 x.n, .bool x.r.b, sl x.r.l, .int .i64 x.r.e, .bool x.r.c, sl x.r.k, .int .i64 x.r.f]
def Nd.nil : Nd := ⟨0, 0, 0, 0, RC.nil⟩
theorem Nd.len (x : Nd) : x.cells.length = 10 := rfl
def nsl (xs : List Nd) : D := .slice xs.length (xs.flatMap Nd.cells)
theorem ba (xs : List Nd) (i : Nat) (h : i < xs.length) : (0 ≤ (i : Int) ∧ (i : Int) < (xs.length : Int)) ∧ (i : Int).toNat * 10 < (xs.flatMap Nd.cells).length := a16 Nd.len (by decide) xs i h
theorem cg (xs : List Nd) (i : Nat) (h : i < xs.length) : (((xs.flatMap Nd.cells).drop ((i : Int).toNat * 10)).drop 0).take 10 = (xs.getD i Nd.nil).cells := a17 Nd.len Nd.nil xs i h
theorem aof (k : Int) : Sim Tryz.prog G0 true 192 [.int .i64 k] (.bool (decide (3 ≤ k ∧ k ≤ 10))) := by
 refine ao af Tryz.func192 ?_
 repeat' ((conv => whnf); first | refine rgE ?_ | refine Cd.mk rfl ?_ | refine Br.t ?_ | refine Br.f ?_ | with_reducible refine Br.dec (fun _ => ?_) (fun _ => ?_) | refine Res.mk ?_)
 ·rename_i h
  exact congrArg D.bool (decide_eq_decide.2 ⟨fun g => g.2, fun g => ⟨h, g⟩⟩)
 ·rename_i h
  exact congrArg D.bool (decide_eq_false fun g => h g.1)
theorem aog (k : Int) : Sim Tryz.prog G0 true 193 [.int .i64 k] (.bool (decide (3 ≤ k ∧ k ≤ 6))) := by
 refine ao af Tryz.func193 ?_
 repeat' ((conv => whnf); first | refine rgE ?_ | refine Cd.mk rfl ?_ | refine Br.t ?_ | refine Br.f ?_ | with_reducible refine Br.dec (fun _ => ?_) (fun _ => ?_) | refine Res.mk ?_)
 ·rename_i h
  exact congrArg D.bool (decide_eq_decide.2 ⟨fun g => g.2, fun g => ⟨h, g⟩⟩)
 ·rename_i h
  exact congrArg D.bool (decide_eq_false fun g => h g.1)
def noC (r : RC) : Bool := decide (r.l.length = 0) && decide (r.k.length = 0) && !r.b && !r.c && decide (r.e = 0) && decide (r.f = 0)
def blB (x : Nd) : Bool := (decide (3 ≤ x.k ∧ x.k ≤ 10) || decide (x.a = 0)) && (decide (3 ≤ x.k ∧ x.k ≤ 6) || decide (x.b = 0)) && (decide (x.k = 7) || decide (x.n = 0)) && (decide (x.k = 2) || noC x.r)
set_option maxRecDepth 10000 in
set_option maxHeartbeats 4000000 in
theorem ati (x : Nd) : Sim Tryz.prog G0 true 191 [.agg x.cells] (.bool (blB x)) := by
 obtain ⟨k, a, b, n, ⟨b1, l1, e1, c1, k1, f1⟩⟩ := x
 have o1 := aof k
 have o2 := aog k
 obtain ⟨t3, ht3⟩ : ∃ t, decide (3 ≤ k ∧ k ≤ 10) = t := ⟨_, rfl⟩
 obtain ⟨t4, ht4⟩ : ∃ t, decide (3 ≤ k ∧ k ≤ 6) = t := ⟨_, rfl⟩
 have e : blB ⟨k, a, b, n, ⟨b1, l1, e1, c1, k1, f1⟩⟩ = ((t3 || decide (a = 0)) && (t4 || decide (b = 0)) && (decide (k = 7) || decide (n = 0)) && (decide (k = 2) || (decide (l1.length = 0) && decide (k1.length = 0) && !b1 && !c1 && decide (e1 = 0) && decide (f1 = 0)))) := by
  unfold blB noC; rw [← ht3, ← ht4]
 rw [e]
 rw [ht3] at o1
 rw [ht4] at o2
 clear ht3 ht4 e
 cases t3 <;> cases t4
 all_goals
  refine ao af Tryz.func191 ?_
 ·repeat' ((conv => whnf); first | with_reducible refine ag.data ?_ | refine aa.mk _ _ (o1) ?_ | refine aa.mk _ _ (o2) ?_ | refine rgE ?_ | refine Cd.mk rfl ?_ | refine Br.t ?_ | refine Br.f ?_ | with_reducible refine Br.dec (fun _ => ?_) (fun _ => ?_) | refine Br.mk (fun _ => ?_) (fun _ => ?_) | refine ah.mk _ rfl ?_ | refine Res.mk ?_)
  all_goals
   show D.bool _ = D.bool _
   refine congrArg D.bool ?_
   clear o1 o2
   grind
 ·repeat' ((conv => whnf); first | with_reducible refine ag.data ?_ | refine aa.mk _ _ (o1) ?_ | refine aa.mk _ _ (o2) ?_ | refine rgE ?_ | refine Cd.mk rfl ?_ | refine Br.t ?_ | refine Br.f ?_ | with_reducible refine Br.dec (fun _ => ?_) (fun _ => ?_) | refine Br.mk (fun _ => ?_) (fun _ => ?_) | refine ah.mk _ rfl ?_ | refine Res.mk ?_)
  all_goals
   show D.bool _ = D.bool _
   refine congrArg D.bool ?_
   clear o1 o2
   grind
 ·repeat' ((conv => whnf); first | with_reducible refine ag.data ?_ | refine aa.mk _ _ (o1) ?_ | refine aa.mk _ _ (o2) ?_ | refine rgE ?_ | refine Cd.mk rfl ?_ | refine Br.t ?_ | refine Br.f ?_ | with_reducible refine Br.dec (fun _ => ?_) (fun _ => ?_) | refine Br.mk (fun _ => ?_) (fun _ => ?_) | refine ah.mk _ rfl ?_ | refine Res.mk ?_)
  all_goals
   show D.bool _ = D.bool _
   refine congrArg D.bool ?_
   clear o1 o2
   grind
 ·repeat' ((conv => whnf); first | with_reducible refine ag.data ?_ | refine aa.mk _ _ (o1) ?_ | refine aa.mk _ _ (o2) ?_ | refine rgE ?_ | refine Cd.mk rfl ?_ | refine Br.t ?_ | refine Br.f ?_ | with_reducible refine Br.dec (fun _ => ?_) (fun _ => ?_) | refine Br.mk (fun _ => ?_) (fun _ => ?_) | refine ah.mk _ rfl ?_ | refine Res.mk ?_)
  all_goals
   show D.bool _ = D.bool _
   refine congrArg D.bool ?_
   clear o1 o2
   grind
theorem ah1 (i n : Int) {t : Bool} (ht : decide (0 ≤ i ∧ i < n) = t) : Sim Tryz.prog G0 true 190 [.int .i64 i, .ptrd [.int .i64 n]] (.bool t) := by
 subst ht
 refine a1q af Tryz.func190 rfl (by kernel_rfl) rfl ⟨Nat.le_of_ble_eq_true rfl, Nat.le_of_ble_eq_true rfl⟩ ?_
 repeat' ((conv => whnf); first | refine rgE ?_ | refine Cd.mk rfl ?_ | refine Br.t ?_ | refine Br.f ?_ | with_reducible refine Br.dec (fun _ => ?_) (fun _ => ?_) | refine ah.mk _ rfl ?_ | refine Res.mk ?_)
 ·rename_i h
  exact congrArg D.bool (decide_eq_decide.2 ⟨fun g => g.2, fun g => ⟨h, g⟩⟩)
 ·rename_i h
  exact congrArg D.bool (decide_eq_false fun g => h g.1)
def dy (x : Nd) (at_ : Int) : Bool :=
 decide (1 ≤ x.k ∧ x.k ≤ 10) && blB x && (!decide (3 ≤ x.k ∧ x.k ≤ 10) || decide (0 ≤ x.a ∧ x.a < at_)) && (!decide (3 ≤ x.k ∧ x.k ≤ 6) || decide (0 ≤ x.b ∧ x.b < at_)) &&
  (if x.k = 7 then decide (0 ≤ x.n ∧ x.n ≤ 64) else kq x.r.b x.r.l x.r.e && kq x.r.c x.r.k x.r.f)
set_option maxRecDepth 10000 in
set_option maxHeartbeats 4000000 in
theorem apg (x : Nd) (at_ : Int) (hl1 : x.r.l.length < 2^32) (hl2 : x.r.k.length < 2^32) : Sim Tryz.prog G0 true 149 [.agg x.cells, .int .i64 at_] (.bool (dy x at_)) := by
 have hbl := ati x
 obtain ⟨bl, hb⟩ : ∃ t, blB x = t := ⟨_, rfl⟩
 unfold dy
 rw [hb] at hbl ⊢
 obtain ⟨k, a, b, n, ⟨b1, l1, e1, c1, k1, f1⟩⟩ := x
 clear hb
 have d1 := aen b1 l1 e1 hl1
 have d2 := aen c1 k1 f1 hl2
 obtain ⟨t1, ht1⟩ : ∃ t, decide (0 ≤ a ∧ a < at_) = t := ⟨_, rfl⟩
 obtain ⟨t2, ht2⟩ : ∃ t, decide (0 ≤ b ∧ b < at_) = t := ⟨_, rfl⟩
 have a1 := ah1 a at_ ht1
 have a2 := ah1 b at_ ht2
 have o1 := aof k
 have o2 := aog k
 obtain ⟨t3, ht3⟩ : ∃ t, decide (3 ≤ k ∧ k ≤ 10) = t := ⟨_, rfl⟩
 obtain ⟨t4, ht4⟩ : ∃ t, decide (3 ≤ k ∧ k ≤ 6) = t := ⟨_, rfl⟩
 obtain ⟨u1, hu1⟩ : ∃ t, kq b1 l1 e1 = t := ⟨_, rfl⟩
 obtain ⟨u2, hu2⟩ : ∃ t, kq c1 k1 f1 = t := ⟨_, rfl⟩
 dsimp only
 rw [ht3] at o1 ⊢
 rw [ht4] at o2 ⊢
 rw [hu1] at d1 ⊢
 rw [hu2] at d2 ⊢
 rw [ht1, ht2]
 clear ht1 ht2 ht3 ht4 hu1 hu2
 refine ao af Tryz.func149 ?_
 repeat' ((conv => whnf); first | with_reducible refine ag.data ?_ | refine aa.mk _ _ (hbl) ?_ | refine aa.mk _ _ (o1) ?_ | refine aa.mk _ _ (o2) ?_ | refine aa.mk _ _ (d1) ?_ | refine aa.mk _ _ (d2) ?_ | refine aa.mk _ _ (a1) ?_ | refine aa.mk _ _ (a2) ?_ | refine rgE ?_ | refine Cd.mk rfl ?_ | refine Br.t ?_ | refine Br.f ?_ | with_reducible refine Br.dec (fun _ => ?_) (fun _ => ?_) | refine Br.mk (fun _ => ?_) (fun _ => ?_) | refine ah.mk _ rfl ?_ | (refine TkE.fL ?_; (conv => whnf); fail_if_success (show ae _ _)) | refine Res.mk ?_ | refine DsE.mk [_] rfl ?_)
 all_goals
  show D.bool _ = D.bool _
  refine congrArg D.bool ?_
  clear hbl d1 d2 a1 a2 o1 o2
  grind
def fu (xs : List Nd) : Bool := decide (0 < xs.length) && decide (xs.length ≤ 40) && (List.range xs.length).all fun i => dy (xs.getD i Nd.nil) i
theorem ud (xs : List Nd) (hn : xs.length < 2^62) (hl : ∀ x ∈ xs, x.r.l.length < 2^32 ∧ x.r.k.length < 2^32) : Sim Tryz.prog G0 true 89 [nsl xs] (.bool (fu xs)) := by
 refine ao af Tryz.func89 ?_
 repeat' ((conv => whnf); first | refine rgE ?_)
 refine ⟨[], [0, 5, 6, 7], [], fun m ys h => ∃ (i : Nat), m = xs.length - i ∧ i ≤ xs.length ∧ i ≤ 40 ∧ (∀ j, j < i → dy (xs.getD j Nd.nil) j = true) ∧
  ys = [.d (nsl xs), .d (nsl xs), .d (.int .i64 xs.length), .d (.int .i64 i)] ∧ h = [],
  ⟨_, _, _, ⟨.inl rfl, rfl, rfl, by first | rfl | (repeat first | exact all_nil _ | refine bm _ _ _ _ _ ?_)⟩, 0, rfl, by omega, by decide, fun j hj => absurd hj (by omega), rfl, rfl⟩, ?_⟩
 rintro m ys h ⟨i, rfl, hi, h40, hall, rfl, rfl⟩
 by_cases hlt : i < xs.length
 ·have hx := hl (xs.getD i Nd.nil) (by simp [hlt])
  have s := apg (xs.getD i Nd.nil) i hx.1 hx.2
  obtain ⟨t, ht⟩ : ∃ t, dy (xs.getD i Nd.nil) i = t := ⟨_, rfl⟩
  rw [ht] at s
  generalize hx' : xs.getD i Nd.nil = x at *
  obtain ⟨k, a, b, n, ⟨b1, l1, e1, c1, k1, f1⟩⟩ := x
  cases t
  ·have no : fu xs = false := by
    unfold fu
    rw [Bool.and_eq_false_iff]; right
    rw [List.all_eq_false]
    exact ⟨i, List.mem_range.2 hlt, by rw [hx', ht]; decide⟩
   repeat' ((conv => whnf); first | with_reducible refine ag.data ?_ | with_reducible refine Br.bt fun _ => ?_ | refine aa.mk _ _ (s) ?_ | refine Cd.mk (ba xs _ (by omega)) ?_ | refine TkE.mk _ ((cg xs i hlt).trans (congrArg Nd.cells hx')) rfl ?_ | refine rgE ?_ | refine Cd.mk rfl ?_ | refine Br.t ?_ | refine Br.f ?_ | with_reducible refine Br.dec (fun _ => ?_) (fun _ => ?_) | (refine TkE.fL ?_; (conv => whnf); fail_if_success (show ae _ _)) | refine Res.mk ?_ | ((with_reducible refine EqE.idS ?_); (refine EqE.fP ?_; (conv => whnf); fail_if_success (show ae _ _))) | refine Cd.ol ?_)
   all_goals (show D.bool _ = D.bool _; rw [no])
  ·repeat' ((conv => whnf); first | with_reducible refine ag.data ?_ | with_reducible refine Br.bt fun _ => ?_ | refine aa.mk _ _ (s) ?_ | refine Cd.mk (ba xs _ (by omega)) ?_ | refine TkE.mk _ ((cg xs i hlt).trans (congrArg Nd.cells hx')) rfl ?_ | refine rgE ?_ | refine Cd.mk rfl ?_ | refine Br.t ?_ | refine Br.f ?_ | with_reducible refine Br.dec (fun _ => ?_) (fun _ => ?_) | (refine TkE.fL ?_; (conv => whnf); fail_if_success (show ae _ _)) | refine Res.mk ?_ | refine an.cu _ _ ?_ | ((with_reducible refine EqE.idW ?_); with_reducible refine EqE.mk _ (ax _ (by omega)) ?_) | ((with_reducible refine EqE.idS ?_); (refine EqE.fP ?_; (conv => whnf); fail_if_success (show ae _ _))) | refine Cd.ol ?_)
   ·have no : fu xs = false := by
     unfold fu
     rw [Bool.and_eq_false_iff]; left
     rw [Bool.and_eq_false_iff]; right
     exact decide_eq_false (by omega)
    show D.bool _ = D.bool _; rw [no]
   ·exact ⟨_, ⟨i + 1, rfl, by omega, by omega, fun j hj => by
     rcases Nat.lt_succ_iff_lt_or_eq.1 hj with g | rfl
     ·exact hall j g
     ·rw [hx']; exact ht, rfl, rfl⟩, by omega⟩
 ·repeat' ((conv => whnf); first | with_reducible refine Br.bf fun _ => ?_ | refine rgE ?_ | refine Cd.mk rfl ?_ | refine Res.mk ?_)
  have e : fu xs = decide (0 < xs.length) := by
   unfold fu
   have : ((List.range xs.length).all fun i => dy (xs.getD i Nd.nil) i) = true := List.all_eq_true.2 fun j hj => hall j (by have := List.mem_range.1 hj; omega)
   rw [this, Bool.and_true, decide_eq_true (show xs.length ≤ 40 by omega), Bool.and_true]
  rw [e]
  exact congrArg D.bool (decide_eq_decide.2 (by omega))
end Go.Ev.Ar

namespace Go.Ev.Ar
open Go Go.Ev Go.Proofs
inductive CxF : D → Cq → Prop where
 | mk {b : Bool} {l : List UInt32} {e : Int} {c : Bool} {k : List UInt32} {f : Int} {p q : Dyadic} (hp : DyF (.agg [.bool b, sl l, .int .i64 e]) p) (hq : DyF (.agg [.bool c, sl k, .int .i64 f]) q) :
  CxF (.agg [.bool b, sl l, .int .i64 e, .bool c, sl k, .int .i64 f]) (p, q)
theorem azy {n : Nat} (b : Nat) {B : Int} (hB : B = b) {r : RC} (hn : n ≤ 1000) (hb : b ≤ 100000) (h : r.few n B = true) : CxF (.agg r.cells) r.val := by
 subst hB
 have h := RC.yu.1 h
 exact .mk (.mk _ _ _ (by omega) (by omega) (by omega)) (.mk _ _ _ (by omega) (by omega) (by omega))
theorem qg {x : D} {z : Cq} (hx : CxF x z) : Sim Tryz.prog G0 false 56 [x] (cxD z) := by
 obtain ⟨hp, hq⟩ := hx
 refine ao af Tryz.func56 ?_
 repeat' ((conv => whnf); first | refine aa.mk _ _ (ag1 hp) ?_ | refine aa.mk _ _ (ag1 hq) ?_ | refine rgE ?_ | refine Cd.mk rfl ?_ | (refine TkE.fL ?_; (conv => whnf); fail_if_success (show ae _ _)) | refine Res.mk ?_ | ((with_reducible refine EqE.idS ?_); (refine EqE.fP ?_; (conv => whnf); fail_if_success (show ae _ _))) | refine Cd.ol ?_)
 rfl
theorem vx (m n : Int) (h1 : -9223372036854775808 ≤ m) (h2 : m ≤ 9223372036854775807) (h3 : -9223372036854775808 ≤ n) (h4 : n ≤ 9223372036854775807) : Sim Tryz.prog G0 false 42 [.int .i64 m, .int .i64 n] (cxD (dof m 0, dof n 0)) := by
 refine ao af Tryz.func42 ?_
 repeat' ((conv => whnf); first | with_reducible refine ag.data ?_ | refine aa.mk _ _ (ag8 _ h1 h2) ?_ | refine aa.mk _ _ (ag8 _ h3 h4) ?_ | refine rgE ?_ | refine Cd.mk rfl ?_ | (refine TkE.fL ?_; (conv => whnf); fail_if_success (show ae _ _)) | refine Res.mk ?_ | ((with_reducible refine EqE.idS ?_); (refine EqE.fP ?_; (conv => whnf); fail_if_success (show ae _ _))) | refine Cd.ol ?_)
 rfl
def kz : List Cq := [(dof 1 0, dof 0 0), (dof 0 0, dof 1 0), (dof (-1) 0, dof 0 0), (dof 0 0, dof (-1) 0)]
end Go.Ev.Ar

namespace Go.Ev
open Go
def upB (f r : Int) (s : Nat) (mode : Int) : Bool :=
 if mode = 0 then false else if mode = 1 then decide (Int.sign r > 0) else decide (Int.sign (r * 2 - 2 ^ s) > 0) || (decide (Int.sign (r * 2 - 2 ^ s) = 0) && decide (f % 2 = 1))
def grd (q : Dyadic) (e mode : Int) : Dyadic :=
 if e ≤ av q then q else
  let s := (e - av q).toNat
  let f := ak q / 2 ^ s
  dof (if upB f (ak q - f * 2 ^ s) s mode then f + 1 else f) e
theorem aws {q : Dyadic} {e mode : Int} (h : e ≤ av q) : grd q e mode = q := by unfold grd; rw [if_pos h]
theorem vi (m : Int) (s : Nat) : 0 ≤ m - m / 2 ^ s * 2 ^ s ∧ m - m / 2 ^ s * 2 ^ s < 2 ^ s := by
 have hp : (0 : Int) < 2 ^ s := Int.pow_pos (by decide)
 have h1 := Int.emod_nonneg m (Int.ne_of_gt hp)
 have h2 := Int.emod_lt_of_pos m hp
 have h3 := Int.mul_ediv_add_emod m (2 ^ s)
 rw [Int.mul_comm (2 ^ s)] at h3
 omega
theorem axw {m : Int} {s : Nat} (hm : m % 2 = 1) (hs : 0 < s) : 0 < m - m / 2 ^ s * 2 ^ s := by
 have h := (vi m s).1
 have h2 : (m - m / 2 ^ s * 2 ^ s) % 2 = 1 := by
  obtain ⟨t, rfl⟩ : ∃ t, s = t + 1 := ⟨s - 1, by omega⟩
  rw [Int.pow_succ, ← Int.mul_assoc]; omega
 omega
theorem agl (m : Int) (s : Nat) : (m / 2 ^ s).natAbs ≤ m.natAbs := by
 have hp : (0 : Int) < 2 ^ s := Int.pow_pos (by decide)
 have := Int.natAbs_ediv_le_natAbs m (2 ^ s)
 exact this
theorem azo {a : Nat} {m : Int} (h : Zt a m) (s : Nat) : Zt a (m / 2 ^ s) := h.le (agl m s)
end Go.Ev

namespace Go.Ev
open Go
def mn (p q : Dyadic) : Dyadic := if p ≤ q then p else q
def mx (p q : Dyadic) : Dyadic := if q ≤ p then p else q
theorem Ht.mn {a : Nat} {p q : Dyadic} (hp : Ht a p) (hq : Ht a q) : Ht a (mn p q) := by unfold Ev.mn; split <;> assumption
theorem Ht.mx {a : Nat} {p q : Dyadic} (hp : Ht a p) (hq : Ht a q) : Ht a (mx p q) := by unfold Ev.mx; split <;> assumption
theorem ar2 (p q : Dyadic) : mn p q ≤ p := by unfold mn; grind
theorem arx (p q : Dyadic) : p ≤ mx p q := by unfold mx; grind
def rof (z : Cq) : Cq := (mn z.1 z.2, mx z.1 z.2)
theorem Hc.rof {a : Nat} {z : Cq} (h : Hc a z) : Hc a (rof z) := ⟨h.1.mn h.2, h.1.mx h.2⟩
def Ord (z : Cq) : Prop := z.1 ≤ z.2
theorem lf (z : Cq) : Ord (rof z) := by unfold Ord Ev.rof mn mx; dsimp only; grind
theorem c6 {z : Cq} (h : Ord z) : rof z = z := by
 obtain ⟨p, q⟩ := z
 unfold Ord at h; unfold Ev.rof mn mx; dsimp only at h ⊢
 congr 1 <;> grind
def js (z w : Cq) : Cq := (z.1 + w.1, z.2 + w.2)
def nm (z : Cq) : Cq := (-z.2, -z.1)
def wv (z w : Cq) : Cq := js z (nm w)
def b8 (z w : Cq) : Cq := (mn (mn (z.1 * w.1) (z.1 * w.2)) (mn (z.2 * w.1) (z.2 * w.2)), mx (mx (z.1 * w.1) (z.1 * w.2)) (mx (z.2 * w.1) (z.2 * w.2)))
def wu (z : Cq) : Cq := if z.1 ≤ 0 ∧ 0 ≤ z.2 then (0, mx (gz z.1) (gz z.2)) else (mn (gz z.1) (gz z.2), mx (gz z.1) (gz z.2))
def kb (n : Int) : Nat := (min (max n 0) 64).toNat
def g0 (z : Cq) (n : Int) : Cq := if kb n % 2 = 0 then ((wu z).1 ^ kb n, (wu z).2 ^ kb n) else (z.1 ^ kb n, z.2 ^ kb n)
def aru (z w : Cq) : Cq := (mn z.1 w.1, mx z.2 w.2)
def a43 (z w : Cq) : Cq × Bool := if mx z.1 w.1 ≤ mn z.2 w.2 then ((mx z.1 w.1, mn z.2 w.2), true) else ((0, 0), false)
def m7 (z : Cq) (d : Dyadic) : Prop := z.1 ≤ d ∧ d ≤ z.2
def iin (z w : Cq) : Prop := w.1 ≤ z.1 ∧ z.2 ≤ w.2
instance (z : Cq) (d : Dyadic) : Decidable (m7 z d) := inferInstanceAs (Decidable (_ ∧ _))
instance (z w : Cq) : Decidable (iin z w) := inferInstanceAs (Decidable (_ ∧ _))
theorem ub {z w : Cq} (h : Ord z) (k : Ord w) : Ord (js z w) := by unfold Ord js at *; dsimp only; grind
theorem aga {z : Cq} (h : Ord z) : Ord (nm z) := by unfold Ord nm at *; dsimp only; grind
theorem abk {z w : Cq} (h : Ord z) (k : Ord w) : Ord (wv z w) := ub h (aga k)
theorem iz (z w : Cq) : Ord (b8 z w) := by
 unfold Ord b8; dsimp only
 have h1 := ar2 (mn (z.1 * w.1) (z.1 * w.2)) (mn (z.2 * w.1) (z.2 * w.2))
 have h2 := ar2 (z.1 * w.1) (z.1 * w.2)
 have h3 := arx (mx (z.1 * w.1) (z.1 * w.2)) (mx (z.2 * w.1) (z.2 * w.2))
 have h4 := arx (z.1 * w.1) (z.1 * w.2)
 grind
theorem av7 {q : Dyadic} : 0 ≤ gz q := by rw [jm]; split <;> grind
theorem aer {z : Cq} (h : Ord z) : wu z = if 0 ≤ z.1 then z else if z.2 ≤ 0 then nm z else (0, mx (-z.1) z.2) := by
 obtain ⟨p, q⟩ := z
 unfold Ord at h; dsimp only at h
 unfold wu nm; dsimp only
 by_cases h1 : 0 ≤ p
 ·rw [if_pos h1]
  have e1 : gz p = p := by rw [jm, if_neg (by grind)]
  have e2 : gz q = q := by rw [jm, if_neg (by grind)]
  rw [e1, e2]
  have e3 : mx p q = q := by unfold mx; grind
  have e4 : mn p q = p := by unfold mn; grind
  rw [e3, e4]
  split
  ·rename_i hp
   rw [show p = 0 by grind]
  ·rfl
 ·rw [if_neg h1]
  have e1 : gz p = -p := by rw [jm, if_pos (by grind)]
  by_cases h2 : q ≤ 0
  ·rw [if_pos h2]
   have e2 : gz q = -q := by
    rw [jm]
    split
    ·rfl
    ·rw [show q = 0 by grind]; rfl
   rw [e1, e2]
   have e3 : mx (-p) (-q) = -p := by unfold mx; grind
   have e4 : mn (-p) (-q) = -q := by unfold mn; grind
   rw [e3, e4]
   split
   ·rename_i hp
    rw [show q = 0 by grind]; rfl
   ·rfl
  ·rw [if_neg h2, if_pos ⟨by grind, by grind⟩, e1]
   have e2 : gz q = q := by rw [jm, if_neg (by grind)]
   rw [e2]
theorem a0h {z : Cq} (h : Ord z) : 0 ≤ (wu z).1 := by
 rw [aer h]
 split
 ·assumption
 ·split
  ·unfold nm; dsimp only; grind
  ·dsimp only; grind
theorem Hc.js {a b c : Nat} {z w : Cq} (h : Hc a z) (k : Hc b w) (hc : max a b < c) : Hc c (js z w) := ⟨h.1.add k.1 hc, h.2.add k.2 hc⟩
theorem Hc.nm {a : Nat} {z : Cq} (h : Hc a z) : Hc a (nm z) := ⟨h.2.neg, h.1.neg⟩
theorem Hc.wv {a b c : Nat} {z w : Cq} (h : Hc a z) (k : Hc b w) (hc : max a b < c) : Hc c (wv z w) := h.js k.nm hc
theorem Hc.b8 {a b c : Nat} {z w : Cq} (h : Hc a z) (k : Hc b w) (hc : a + b ≤ c) : Hc c (b8 z w) :=
 ⟨((h.1.mul k.1 hc).mn (h.1.mul k.2 hc)).mn ((h.2.mul k.1 hc).mn (h.2.mul k.2 hc)), ((h.1.mul k.1 hc).mx (h.1.mul k.2 hc)).mx ((h.2.mul k.1 hc).mx (h.2.mul k.2 hc))⟩
theorem Hc.wu {a : Nat} {z : Cq} (h : Hc a z) : Hc a (wu z) := by
 unfold Ev.wu
 split
 ·exact ⟨.zero a, h.1.abs.mx h.2.abs⟩
 ·exact ⟨h.1.abs.mn h.2.abs, h.1.abs.mx h.2.abs⟩
theorem Hc.g0 {a : Nat} {z : Cq} (n : Int) {k c : Nat} (h : Hc a z) (hn : kb n ≤ k) (hc : a * k + 1 ≤ c) : Hc c (g0 z n) := by
 have e : a * kb n + 1 ≤ c := Nat.le_trans (Nat.add_le_add_right (Nat.mul_le_mul_left a hn) 1) hc
 unfold Ev.g0
 split
 ·exact ⟨(h.wu.1.pow _).mono e, (h.wu.2.pow _).mono e⟩
 ·exact ⟨(h.1.pow _).mono e, (h.2.pow _).mono e⟩
end Go.Ev

namespace Go.Ev.Ar
open Go Go.Ev Go.Proofs
theorem vd {p q : Dyadic} : dsg (p - q) ≤ 0 ↔ p ≤ q := by rw [afw]; grind
theorem arb {x y : D} {p q r : Dyadic} (hx : DyR x p) (hy : DyR y q) (hpq : Ht 1048576 (p - q)) (h : mn p q = r) : Sim Tryz.prog G0 false 123 [x, y] (dyD r) := h ▸ awf hx hy hpq
theorem aj5 {x y : D} {p q r : Dyadic} (hx : DyR x p) (hy : DyR y q) (hpq : Ht 1048576 (p - q)) (h : mx p q = r) : Sim Tryz.prog G0 false 124 [x, y] (dyD r) := h ▸ awe hx hy hpq
theorem mu {x : D} {z r : Cq} (hx : CxR x z) (hz : Hc 1000000 z) (h : rof z = r) : Sim Tryz.prog G0 false 122 [x] (cxD r) := by
 subst h
 have hd := hz.1.sub hz.2 (c := 1048576) (by decide)
 obtain ⟨hp, hq⟩ := hx
 refine ao af Tryz.func122 ?_
 repeat' ((conv => whnf); first | refine aa.mk _ _ (arb hp hq hd rfl) ?_ | refine aa.mk _ _ (aj5 hp hq hd rfl) ?_ | refine rgE ?_ | refine Cd.mk rfl ?_ | (refine TkE.fL ?_; (conv => whnf); fail_if_success (show ae _ _)) | refine Res.mk ?_ | ((with_reducible refine EqE.idS ?_); (refine EqE.fP ?_; (conv => whnf); fail_if_success (show ae _ _))) | refine Cd.ol ?_)
 rfl
theorem ak6 {x : D} {p : Dyadic} (hx : DyR x p) (hp : Ht 1000000 p) : Sim Tryz.prog G0 false 125 [x] (cxD (p, p)) := by
 have hr : rof (p, p) = (p, p) := c6 (by show p ≤ p; grind)
 obtain ⟨b, l, e⟩ := hx
 rename_i h1 h2 h3 h4
 have hc : CxR (.agg [.bool b, sl l, .int .i64 e, .bool b, sl l, .int .i64 e]) (dof (zv b l) e, dof (zv b l) e) := .mk (.mk _ _ _ h1 h2 h3 (hp.mono (by decide))) (.mk _ _ _ h1 h2 h3 (hp.mono (by decide)))
 refine ao af Tryz.func125 ?_
 repeat' ((conv => whnf); first | with_reducible refine ag.data ?_ | refine aa.mk _ _ (mu hc ⟨hp, hp⟩ hr) ?_ | refine rgE ?_ | refine Cd.mk rfl ?_ | (refine TkE.fL ?_; (conv => whnf); fail_if_success (show ae _ _)) | refine Res.mk ?_ | ((with_reducible refine EqE.idS ?_); (refine EqE.fP ?_; (conv => whnf); fail_if_success (show ae _ _))) | refine Cd.ol ?_)
 rfl
theorem ayi {x y : D} {z : Cq} {d : Dyadic} {t : Bool} (hx : CxR x z) (hy : DyR y d) (hz : Hc 1000000 z) (hd : Ht 1000000 d) (h : decide (m7 (rof z) d) = t) : Sim Tryz.prog G0 true 204 [x, y] (.bool t) := by
 subst h
 have hr := hz.rof
 have s := mu hx hz rfl
 obtain ⟨r, er⟩ : ∃ r, r = rof z := ⟨_, rfl⟩
 rw [← er] at s hr ⊢
 obtain ⟨p, q⟩ := r
 have h1 := hr.1.sub hd (c := 1048576) (by decide)
 have h2 := hd.sub hr.2 (c := 1048576) (by decide)
 obtain ⟨hp, hq⟩ := hx
 obtain ⟨b, l, e⟩ := hy
 refine ao af Tryz.func204 ?_
 repeat' ((conv => whnf); first | with_reducible refine ag.data ?_ | refine aa.mk _ _ (s) ?_ | refine aa.mk _ _ (jw (p := p) (q := dof (zv b l) e) (.of (hr.1.mono (by decide))) (.mk _ _ _ (by assumption) (by assumption) (by assumption) (by assumption)) h1) ?_ | refine aa.mk _ _ (jw (p := dof (zv b l) e) (q := q) (.mk _ _ _ (by assumption) (by assumption) (by assumption) (by assumption)) (.of (hr.2.mono (by decide))) h2) ?_ | refine rgE ?_ | refine Cd.mk rfl ?_ | refine Br.t ?_ | refine Br.f ?_ | with_reducible refine Br.dec (fun _ => ?_) (fun _ => ?_) | (refine TkE.fL ?_; (conv => whnf); fail_if_success (show ae _ _)) | refine Res.mk ?_ | ((with_reducible refine EqE.idS ?_); (refine EqE.fP ?_; (conv => whnf); fail_if_success (show ae _ _))) | refine Cd.ol ?_)
 ·rename_i h
  refine congrArg D.bool (decide_eq_decide.2 ?_)
  rw [vd] at h ⊢
  exact ⟨fun g => g.2, fun g => ⟨h, g⟩⟩
 ·rename_i h
  rw [vd] at h
  exact congrArg D.bool (decide_eq_false fun g => h g.1)
theorem x5 {x y : D} {z w r : Cq} (hx : CxR x z) (hy : CxR y w) (hz : Hc 1000000 z) (hw : Hc 1000000 w) (h : js (rof z) (rof w) = r) : Sim Tryz.prog G0 false 133 [x, y] (cxD r) := by
 subst h
 have hr := hz.rof
 have hs := hw.rof
 have s := mu hx hz rfl
 have s' := mu hy hw rfl
 generalize rof z = r at *
 generalize rof w = r' at *
 obtain ⟨p, q⟩ := r
 obtain ⟨p', q'⟩ := r'
 obtain ⟨_, _⟩ := hx
 obtain ⟨_, _⟩ := hy
 refine ao af Tryz.func133 ?_
 repeat' ((conv => whnf); first | refine aa.mk _ _ (s) ?_ | refine aa.mk _ _ (s') ?_ | refine aa.mk _ _ (th (p := p) (q := p') (.of (hr.1.mono (by decide))) (.of (hs.1.mono (by decide)))) ?_ | refine aa.mk _ _ (th (p := q) (q := q') (.of (hr.2.mono (by decide))) (.of (hs.2.mono (by decide)))) ?_ | refine rgE ?_ | refine Cd.mk rfl ?_ | (refine TkE.fL ?_; (conv => whnf); fail_if_success (show ae _ _)) | refine Res.mk ?_ | ((with_reducible refine EqE.idS ?_); (refine EqE.fP ?_; (conv => whnf); fail_if_success (show ae _ _))) | refine Cd.ol ?_)
 rfl
theorem ag7 {x : D} {z r : Cq} (hx : CxR x z) (hz : Hc 1000000 z) (h : nm (rof z) = r) : Sim Tryz.prog G0 false 86 [x] (cxD r) := by
 subst h
 have hr := hz.rof
 have s := mu hx hz rfl
 generalize rof z = r at *
 obtain ⟨p, q⟩ := r
 obtain ⟨_, _⟩ := hx
 refine ao af Tryz.func86 ?_
 repeat' ((conv => whnf); first | with_reducible refine ag.data ?_ | refine aa.mk _ _ (s) ?_ | refine aa.mk _ _ (qt (p := q) (.of (hr.2.mono (by decide)))) ?_ | refine aa.mk _ _ (qt (p := p) (.of (hr.1.mono (by decide)))) ?_ | refine rgE ?_ | refine Cd.mk rfl ?_ | (refine TkE.fL ?_; (conv => whnf); fail_if_success (show ae _ _)) | refine Res.mk ?_ | ((with_reducible refine EqE.idS ?_); (refine EqE.fP ?_; (conv => whnf); fail_if_success (show ae _ _))) | refine Cd.ol ?_)
 rfl
theorem ab4 {x y : D} {z w r : Cq} (hx : CxR x z) (hy : CxR y w) (hz : Hc 1000000 z) (hw : Hc 1000000 w) (h : wv (rof z) (rof w) = r) : Sim Tryz.prog G0 false 147 [x, y] (cxD r) := by
 subst h
 have hs := hw.rof
 have s' := ag7 hy hw rfl
 have ho := aga (lf w)
 unfold wv
 have hn := hs.nm
 generalize nm (rof w) = r' at *
 have a := x5 hx (.of (hn.mono (by decide))) hz hn rfl
 rw [c6 ho] at a
 generalize js (rof z) r' = t at *
 obtain ⟨p', q'⟩ := r'
 obtain ⟨_, _⟩ := hx
 obtain ⟨_, _⟩ := hy
 refine ao af Tryz.func147 ?_
 repeat' ((conv => whnf); first | refine aa.mk _ _ (s') ?_ | refine aa.mk _ _ (a) ?_ | refine rgE ?_ | refine Cd.mk rfl ?_ | (refine TkE.fL ?_; (conv => whnf); fail_if_success (show ae _ _)) | refine Res.mk ?_ | ((with_reducible refine EqE.idS ?_); (refine EqE.fP ?_; (conv => whnf); fail_if_success (show ae _ _))) | refine Cd.ol ?_)
 rfl
theorem ayh {x : D} {z r : Cq} (hx : CxR x z) (hz : Hc 1000000 z) (h : wu (rof z) = r) : Sim Tryz.prog G0 false 228 [x] (cxD r) := by
 subst h
 have ho := lf z
 have hr := hz.rof
 have s := mu hx hz rfl
 rw [aer ho]
 generalize rof z = r at *
 have n := ag7 (.of (hr.mono (by decide))) hr rfl
 rw [c6 ho] at n
 have hm := hr.1.neg.sub hr.2 (c := 1048576) (by decide)
 obtain ⟨p, q⟩ := r
 obtain ⟨_, _⟩ := hx
 refine ao af Tryz.func228 ?_
 repeat' ((conv => whnf); first | with_reducible refine ag.data ?_ | refine aa.mk _ _ (s) ?_ | refine aa.mk _ _ (gi (q := p) (.of (hr.1.mono (by decide)))) ?_ | refine aa.mk _ _ (gi (q := q) (.of (hr.2.mono (by decide)))) ?_ | refine aa.mk _ _ (n) ?_ | refine aa.mk _ _ (qt (p := p) (.of (hr.1.mono (by decide)))) ?_ | refine aa.mk _ _ (aj5 (p := -p) (q := q) (.of (hr.1.neg.mono (by decide))) (.of (hr.2.mono (by decide))) hm rfl) ?_ | refine rgE ?_ | refine Cd.mk rfl ?_ | with_reducible refine Br.dec (fun _ => ?_) (fun _ => ?_) | (refine TkE.fL ?_; (conv => whnf); fail_if_success (show ae _ _)) | refine Res.mk ?_ | ((with_reducible refine EqE.idS ?_); (refine EqE.fP ?_; (conv => whnf); fail_if_success (show ae _ _))) | refine Cd.ol ?_)
 ·rename_i h
  rw [if_pos (afv.1 h)]; rfl
 ·rename_i h h2
  rw [if_neg (fun g => h (afv.2 g)), if_pos (afw.1 h2)]; rfl
 ·rename_i h h2
  rw [if_neg (fun g => h (afv.2 g)), if_neg (fun g => h2 (afw.2 g))]
  show _ = D.agg [.bool _, sl [], .int .i64 _, _, _, _]
  rw [← bh]; rfl
theorem ai8 {x y : D} {z w r : Cq} (hx : CxR x z) (hy : CxR y w) (hz : Hc 1000000 z) (hw : Hc 1000000 w) (h : aru (rof z) (rof w) = r) : Sim Tryz.prog G0 false 67 [x, y] (cxD r) := by
 subst h
 have hr := hz.rof
 have hs := hw.rof
 have s := mu hx hz rfl
 have s' := mu hy hw rfl
 generalize rof z = r at *
 obtain ⟨r', er⟩ : ∃ r', r' = rof w := ⟨_, rfl⟩
 rw [← er] at s' hs ⊢
 have h1 := hr.1.sub hs.1 (c := 1048576) (by decide)
 have h2 := hr.2.sub hs.2 (c := 1048576) (by decide)
 obtain ⟨p, q⟩ := r
 obtain ⟨p', q'⟩ := r'
 obtain ⟨_, _⟩ := hx
 obtain ⟨_, _⟩ := hy
 refine ao af Tryz.func67 ?_
 repeat' ((conv => whnf); first | refine aa.mk _ _ (s) ?_ | refine aa.mk _ _ (s') ?_ | refine aa.mk _ _ (arb (p := p) (q := p') (.of (hr.1.mono (by decide))) (.of (hs.1.mono (by decide))) h1 rfl) ?_ | refine aa.mk _ _ (aj5 (p := q) (q := q') (.of (hr.2.mono (by decide))) (.of (hs.2.mono (by decide))) h2 rfl) ?_ | refine rgE ?_ | refine Cd.mk rfl ?_ | (refine TkE.fL ?_; (conv => whnf); fail_if_success (show ae _ _)) | refine Res.mk ?_ | ((with_reducible refine EqE.idS ?_); (refine EqE.fP ?_; (conv => whnf); fail_if_success (show ae _ _))) | refine Cd.ol ?_)
 rfl
def dyC (q : Dyadic) : List A := [.d (.bool (a7 (ak q))), .d (sl (ofN (ak q).natAbs)), .d (.int .i64 (av q))]
end Go.Ev.Ar

namespace Go.Ev.Ar
open Go Go.Ev Go.Proofs
def rcD (a b : Cq) : D := .agg [.bool (a7 (ak a.1)), sl (ofN (ak a.1).natAbs), .int .i64 (av a.1), .bool (a7 (ak a.2)), sl (ofN (ak a.2).natAbs), .int .i64 (av a.2), .bool (a7 (ak b.1)), sl (ofN (ak b.1).natAbs), .int .i64 (av b.1), .bool (a7 (ak b.2)), sl (ofN (ak b.2).natAbs), .int .i64 (av b.2)]
inductive RcR : D → Cq → Cq → Prop where
 | mk {b : Bool} {l : List UInt32} {e : Int} {c : Bool} {k : List UInt32} {f : Int} {b' : Bool} {l' : List UInt32} {e' : Int} {c' : Bool} {k' : List UInt32} {f' : Int} {z w : Cq}
  (h1 : CxR (.agg [.bool b, sl l, .int .i64 e, .bool c, sl k, .int .i64 f]) z) (h2 : CxR (.agg [.bool b', sl l', .int .i64 e', .bool c', sl k', .int .i64 f']) w) :
  RcR (.agg [.bool b, sl l, .int .i64 e, .bool c, sl k, .int .i64 f, .bool b', sl l', .int .i64 e', .bool c', sl k', .int .i64 f']) z w
theorem RcR.of {a b : Cq} (h : Hc 1048576 a) (k : Hc 1048576 b) : RcR (rcD a b) a b := .mk (.of h) (.of k)
theorem arq {x y : D} {a b r : Cq} (hx : CxR x a) (hy : CxR y b) (h : (a.1 + b.1, a.2 + b.2) = r) : Sim Tryz.prog G0 false 151 [x, y] (cxD r) := by
 subst h
 obtain ⟨h1, h2⟩ := hx
 obtain ⟨h3, h4⟩ := hy
 refine ao af Tryz.func151 ?_
 repeat' ((conv => whnf); first | refine aa.mk _ _ (th h1 h3) ?_ | refine aa.mk _ _ (th h2 h4) ?_ | refine rgE ?_ | refine Cd.mk rfl ?_ | (refine TkE.fL ?_; (conv => whnf); fail_if_success (show ae _ _)) | refine Res.mk ?_ | ((with_reducible refine EqE.idS ?_); (refine EqE.fP ?_; (conv => whnf); fail_if_success (show ae _ _))) | refine Cd.ol ?_)
 rfl
theorem atr {x : D} {a r : Cq} (n : Int) (hx : CxR x a) (h : (a.1 * dof 1 (min (max n (-20000)) 20000), a.2 * dof 1 (min (max n (-20000)) 20000)) = r) : Sim Tryz.prog G0 false 91 [x, .int .i64 n] (cxD r) := by
 subst h
 obtain ⟨h1, h2⟩ := hx
 refine ao af Tryz.func91 ?_
 repeat' ((conv => whnf); first | refine aa.mk _ _ (afu n h1) ?_ | refine aa.mk _ _ (afu n h2) ?_ | refine rgE ?_ | refine Cd.mk rfl ?_ | (refine TkE.fL ?_; (conv => whnf); fail_if_success (show ae _ _)) | refine Res.mk ?_ | ((with_reducible refine EqE.idS ?_); (refine EqE.fP ?_; (conv => whnf); fail_if_success (show ae _ _))) | refine Cd.ol ?_)
 rfl
theorem awo {x y : D} {a b : Cq} {t : Bool} (hx : CxR x a) (hy : CxR y b) (ha : Hc 1000000 a) (hb : Hc 1000000 b) (h : decide (a = b) = t) : Sim Tryz.prog G0 true 150 [x, y] (.bool t) := by
 subst h
 obtain ⟨h1, h2⟩ := hx
 obtain ⟨h3, h4⟩ := hy
 refine ao af Tryz.func150 ?_
 repeat' ((conv => whnf); first | with_reducible refine ag.data ?_ | refine aa.mk _ _ (ah9 h1 h3 (ha.1.sub hb.1 (by decide))) ?_ | refine aa.mk _ _ (ah9 h2 h4 (ha.2.sub hb.2 (by decide))) ?_ | refine rgE ?_ | refine Cd.mk rfl ?_ | refine Br.t ?_ | refine Br.f ?_ | with_reducible refine Br.dec (fun _ => ?_) (fun _ => ?_) | (refine TkE.fL ?_; (conv => whnf); fail_if_success (show ae _ _)) | refine Res.mk ?_)
 ·rename_i h
  refine congrArg D.bool (decide_eq_decide.2 ?_)
  rw [Prod.mk.injEq]; exact ⟨fun g => g.2, fun g => ⟨h, g⟩⟩
 ·rename_i h
  refine congrArg D.bool (decide_eq_false fun g => h ?_)
  rw [Prod.mk.injEq] at g; exact g.1
end Go.Ev.Ar

namespace Go.Ev
open Go
section
variable {P : Program} {G : bb} {T : Tab}
theorem aoc (hT : b6 P T) {c rest : Code} {Q : Exit → St → Prop} {n : Nat} {env : List (Nat × A)} {heap : Hp} (l : Nat) (hl : findLabel c l = some rest) (L ks : List Nat) (I : Nat → List A → Hp → Prop)
  (h1 : awp P G T c (fun e σ' => match e with | .goto l' => Cd (l' = l) (aoq I L ks σ') | e => Q e σ') ⟨n, env, heap⟩)
  (h2 : ∀ m xs h, I m xs h → awp P G T rest (fun e σ' => match e with | .goto l' => Cd (l' = l) (an I m L ks σ') | e => Q e σ') ⟨n, L.zip xs, h⟩) : Wp' P G (.scope c) Q ⟨n, env, heap⟩ := by
 intro w0 M S0 a w β S hr b k cs
 have hg : gotoIn l (.inScope c :: k) = some (.code rest :: .inScope c :: k) := by simp [gotoIn, hl]
 have key : ∀ m a w xs hh β S, I m xs hh → Rel G w0 M S0 (St.at n L xs hh) a w β S →
   ∃ e a' w', z5 G w0 M S0 n (Q e) a' w' ∧ Arrives P (lone (b.at a (.code rest :: .inScope c :: k)) cs w) b k cs e a' w' := by
  intro m
  induction m using Nat.strongRecOn with
  | _ m ih =>
   intro a w xs hh β S hI hr
   obtain ⟨e, a₁, w₁, ⟨σ', β', S', hq, hr', hn⟩, harr⟩ := ec hT rest _ _ (h2 m xs hh hI) w0 M S0 a w β S hr b (.inScope c :: k) cs
   cases e with
   | normal => exact ⟨.normal, a₁, w₁, ⟨σ', β', S', hq, hr', hn⟩, Steps.trans harr (.one step_inScope)⟩
   | exit id => exact ⟨.exit id, a₁, w₁, ⟨σ', β', S', hq, hr', hn⟩, fun k' hk => harr k' (by simp [exitTo, hk])⟩
   | goto l' =>
    obtain ⟨rfl, m', xs', h', hcut', hlt, hI'⟩ := hq
    have hr2 := hr'.cut hcut'
    rw [hn] at hr2
    obtain ⟨e₂, a₂, w₂, hq₂, harr₂⟩ := ih m' hlt a₁ w₁ xs' h' _ S' hI' hr2
    exact ⟨e₂, a₂, w₂, hq₂, .of_steps (harr _ hg) harr₂⟩
   | ret => exact ⟨_, a₁, w₁, ⟨σ', β', S', hq, hr', hn⟩, harr⟩
   | panic ch => exact ⟨_, a₁, w₁, ⟨σ', β', S', hq, hr', hn⟩, harr⟩
   | outgrown => exact ⟨_, a₁, w₁, ⟨σ', β', S', hq, hr', hn⟩, harr⟩
 obtain ⟨e, a₁, w₁, ⟨σ', β', S', hq, hr', hn⟩, harr⟩ := ec hT c _ _ h1 w0 M S0 a w β S hr b (.inScope c :: k) cs
 cases e with
 | normal => exact ⟨.normal, a₁, w₁, ⟨σ', β', S', hq, hr', hn⟩, .head step_scope (Steps.trans harr (.one step_inScope))⟩
 | exit id => exact ⟨.exit id, a₁, w₁, ⟨σ', β', S', hq, hr', hn⟩, fun k' hk => .head step_scope (harr k' (by simp [exitTo, hk]))⟩
 | goto l' =>
  obtain ⟨rfl, m, xs, hh, hcut, hI⟩ := hq
  have hr2 := hr'.cut hcut
  rw [hn] at hr2
  obtain ⟨e₂, a₂, w₂, hq₂, harr₂⟩ := key m a₁ w₁ xs hh _ S' hI hr2
  exact ⟨e₂, a₂, w₂, hq₂, .of_steps (.head step_scope (harr _ hg)) harr₂⟩
 | ret => exact ⟨_, a₁, w₁, ⟨σ', β', S', hq, hr', hn⟩, .of_steps (.one step_scope) harr⟩
 | panic ch => exact ⟨_, a₁, w₁, ⟨σ', β', S', hq, hr', hn⟩, .of_steps (.one step_scope) harr⟩
 | outgrown => exact ⟨_, a₁, w₁, ⟨σ', β', S', hq, hr', hn⟩, .of_steps (.one step_scope) harr⟩
theorem ado (hT : b6 P T) {c : Code} {Q : Exit → St → Prop} {n : Nat} {env : List (Nat × A)} {heap : Hp}
  (h1 : awp P G T c (fun e σ' => match e with | .goto l' => False | e => Q e σ') ⟨n, env, heap⟩) : Wp' P G (.scope c) Q ⟨n, env, heap⟩ := by
 intro w0 M S0 a w β S hr
 refine wp_scope_straight (wp_mono (ec hT c _ _ h1 w0 M S0 a w β S hr) ?_)
 rintro e a' w' ⟨σ', β', S', hq, hr', hn⟩
 cases e with
 | goto l => exact hq.elim
 | _ => exact ⟨σ', β', S', hq, hr', hn⟩
end
end Go.Ev

namespace Go.Ev
open Go
section
variable {P : Program} {G : bb} {T : Tab} {w0 : World} {M : Own} {S0 : Imm} {σ : St} {a : Act} {w w' : World} {β : Own} {S : Imm}
theorem ji.shrink {f : FuncId} {args : List A} {hin : Hp} {r : A} {t : Nat} {l : List A} (n : Nat) (h : ji P G f args hin r [(t, false, l)]) : ji P G f args hin r [(t, false, l.take n)] := by
 refine ⟨h.can, h.refArgs, h.refIn, h.refRes, ?_, fun S w β vs h1 h2 => ?_⟩
 ·intro x hx
  simp only [List.mem_cons, List.not_mem_nil, or_false] at hx
  subst hx
  have := h.refOut _ (List.mem_singleton.2 rfl)
  simp only at this ⊢
  have key : ∀ (l : List A) (n : Nat), A.a6 [t] l = true → A.a6 [t] (l.take n) = true := by
   intro l
   induction l with
   | nil => intro n _; simp [A.a6]
   | cons x l ih =>
    intro n hl
    cases n with
    | zero => rfl
    | succ n =>
     simp only [A.a6, Bool.and_eq_true, List.take_succ_cons] at hl ⊢
     exact ⟨hl.1, ih n hl.2⟩
  exact key l n this
 ·refine Calls.mono (h.run S w β vs h1 h2) ?_
  rintro e w' ⟨v, β', S', rfl, hr, hR⟩
  refine ⟨v, β', S', rfl, ?_, hR⟩
  have hl : ∀ b fr l1, lk [(t, false, l.take n)] b = some (fr, l1) → lk [(t, false, l)] b = some (fr, l) ∧ l1 = l.take n := by
   intro b fr l1 h
   simp only [lk] at h ⊢
   split at h
   ·rename_i e; rw [if_pos e]; cases h; exact ⟨rfl, rfl⟩
   ·cases h
  refine { hr with env := fun t x hx => by simp [St.mem, lk] at hx, keys := ?_, rd := ?_, live := ?_, froz := ?_, fd := ?_, nilb := ?_, stay := ?_ }
  ·intro b hb
   have := hr.keys b hb
   simp only [St.mem, lk] at this ⊢
   split
   ·simp
   ·rename_i e; rw [if_neg e] at this; exact absurd rfl this
  ·intro b k fr l1 hb hl1
   obtain ⟨h3, rfl⟩ := hl b fr l1 hl1
   obtain ⟨C, Tc, hC, hlen, hcell⟩ := hr.rd b k fr l hb h3
   refine ⟨C, Tc, hC, by rw [List.length_take]; omega, fun j x hx => ?_⟩
   rw [List.getElem?_take] at hx
   split at hx
   ·exact hcell j x hx
   ·cases hx
  ·intro b k l1 hb hl1
   exact hr.live b k l hb (hl b _ l1 hl1).1
  ·intro b k l1 hb hl1
   exfalso
   have := (hl b _ l1 hl1).1
   simp only [lk] at this
   split at this <;> cases this
  ·intro b l1 hl1
   exfalso
   have := (hl b _ l1 hl1).1
   simp only [lk] at this
   split at this <;> cases this
  ·intro b fr l1 hb hl1
   obtain ⟨h3, rfl⟩ := hl b fr l1 hl1
   rw [hr.nilb b fr l hb h3]; simp
  ·intro b h1 h2 hb
   refine hr.stay b h1 h2 ?_
   simp only [St.mem, lk] at hb ⊢
   split
   ·simp
   ·rename_i e; rw [if_neg e] at hb; exact absurd rfl hb
end
theorem agp : ∀ {a b : List UInt32}, a.length = b.length → nv a = nv b → a = b
 | [], [], _, _ => rfl
 | [], y :: b, h, _ => by simp at h
 | x :: a, [], h, _ => by simp at h
 | x :: a, y :: b, h, hn => by
  rw [fj, fj] at hn
  have h1 := bd x
  have h2 := bd y
  have e1 : x.toNat = y.toNat := by omega
  rw [UInt32.toNat_inj.1 e1, agp (a := a) (b := b) (by simpa using h) (by omega)]
def aee (n k : Nat) : List UInt32 := ofN n ++ List.replicate (k - (ofN n).length) 0
theorem xt {n k : Nat} (h : n < Pw k) : (aee n k).length = k := by
 have := b5.2 h
 unfold aee; simp; omega
theorem asa (n k : Nat) : nv (aee n k) = n := by unfold aee; rw [l5, aw, bo]; omega
theorem ase {l : List UInt32} {n k : Nat} (h1 : l.length = k) (h2 : nv l = n) : l = aee n k :=
 agp (by rw [xt (by rw [← h2, ← h1]; exact dc l), h1]) (by rw [asa, h2])
theorem auc (n k : Nat) : (aee n k).take (ofN n).length = ofN n := by unfold aee; simp
theorem vk (A W : List UInt32) (i : Int) (j : Nat) (e : i = j) (hj : j < W.length) : (la (A ++ W))[A.length + i.toNat * 1]? = some (.d (.int .u32 (W.getD j 0).toNat)) := by
 subst e
 rw [Int.toNat_natCast, Nat.mul_one, agd (A ++ W) _ _ rfl (by simp; omega)]
 rw [List.getD_eq_getElem?_getD, List.getElem?_append_right (by omega), Nat.add_sub_cancel_left, ← List.getD_eq_getElem?_getD]
theorem vl (A W : List UInt32) (i : Int) (j v : Nat) (e : i = j) (hj : j < W.length) (hv : v < 4294967296) : setAt (la (A ++ W)) (A.length + i.toNat * 1) (Ev.A.d (.int .u32 (v : Nat))).cells = la (A ++ W.set j (UInt32.ofNat v)) := by
 subst e
 rw [Int.toNat_natCast, Nat.mul_one, ld (A ++ W) _ (A.length + j) v rfl (by simp; omega) hv]
 rw [List.set_append_right _ _ (by omega), Nat.add_sub_cancel_left]
theorem qw (l : List UInt32) (i : Int) (j : Nat) (e : i = j) (hj : j < l.length) : ((bj l).drop (i.toNat * 1))[0]? = some (.int .u32 (l.getD j 0).toNat) := by
 subst e
 exact dw l _ (by simpa using hj)
theorem apo (x y : Nat) (hx : x < 4294967296) (hy : y < 4294967296) : IntKind.u64.wrap (BitVec.ofInt IntKind.u64.bits ((x * 4294967296 : Nat) : Int) ||| BitVec.ofInt IntKind.u64.bits (y : Int)).toNat = ((x * 4294967296 + y : Nat) : Int) := by
 rw [axh _ _ (by omega) (by omega)]
 congr 1
 exact ap0 (x := x) (c := y) (s := 32) (by omega)
theorem ar5 (x y : Nat) (hx : x < 18446744073709551616) : IntKind.u64.wrap ((x : Int).tdiv y) = ((x / y : Nat) : Int) := by
 rw [Int.tdiv_eq_ediv_of_nonneg (by omega), ← Int.natCast_ediv]
 have := Nat.div_le_self x y
 generalize x / y = z at *
 exact wrap_u64 (by omega) (by omega)
theorem amu {x y : Nat} (hx : x < 4294967296) (hy : y < 4294967296) : x * y < 18446744073709551616 := by
 have : x * y ≤ 4294967295 * 4294967295 := Nat.mul_le_mul (by omega) (by omega)
 omega
theorem apq (x : Nat) (h : 1 ≤ x) (hx : x < 18446744073709551616) : IntKind.u64.wrap (↑x - 1) = ((x - 1 : Nat) : Int) := by
 rw [wrap_u64 (by omega) (by omega)]; omega
theorem a0w (x y : Nat) : IntKind.u32.wrap (↑x + ↑y) = (((x + y) % 4294967296 : Nat) : Int) := by rw [wrap_u32]; omega
theorem v9 {P : Program} {G : bb} {T : Tab} (hT : b6 P T) {a b : Code} {Q : Exit → St → Prop} {n : Nat} {env : List (Nat × A)} {heap : Hp}
  (h : awp P G T a (fun e σ' => match e with | .normal => σ'.n = n → Wp' P G b Q σ' | e => Q e σ') ⟨n, env, heap⟩) : Wp' P G (.seq a b) Q ⟨n, env, heap⟩ := by
 intro w0 M S0 a' w β S hr
 refine wp_seq (wp_mono (ec hT a _ _ h w0 M S0 a' w β S hr) ?_)
 rintro e a2 w2 ⟨σ', β', S', hq, hr', hn⟩
 cases e with
 | normal =>
  simp only [Exit.then]
  have := hq hn w0 M S0 a2 w2 β' S' hr'
  rw [hn] at this
  exact this
 | _ => exact ⟨σ', β', S', hq, hr', hn⟩
theorem ae6 {P : Program} {G : bb} {c : Code} {Q : Exit → St → Prop} {n : Nat} {env : List (Nat × A)} {heap : Hp} (L ks : List Nat) (xs : List A) (h : Hp) (hc : St.cut ⟨n, env, heap⟩ L ks xs h)
  (hw : Wp' P G c Q ⟨n, L.zip xs, h⟩) : Wp' P G c Q ⟨n, env, heap⟩ := by
 intro w0 M S0 a w β S hr
 exact hw w0 M S0 a w _ S (hr.cut hc)
theorem yg {P : Program} {G : bb} {c : Code} {Q Q' : Exit → St → Prop} {σ : St} (h : ∀ e σ', Q e σ' → Q' e σ') (hw : Wp' P G c Q σ) : Wp' P G c Q' σ := by
 intro w0 M S0 a w β S hr
 refine wp_mono (hw w0 M S0 a w β S hr) ?_
 rintro e a' w' ⟨σ', β', S', hq, hr', hn⟩
 exact ⟨σ', β', S', h e σ' hq, hr', hn⟩
theorem avb {P : Program} {G : bb} {c rest : Code} {Q : Exit → St → Prop} {n : Nat} {env : List (Nat × A)} {heap : Hp} (l : Nat) (hl : findLabel c l = some rest) (L ks : List Nat) (I : Nat → List A → Hp → Prop)
  (h1 : Wp' P G c (fun e σ' => match e with | .goto l' => Cd (l' = l) (aoq I L ks σ') | e => Q e σ') ⟨n, env, heap⟩)
  (h2 : ∀ m xs h, I m xs h → Wp' P G rest (fun e σ' => match e with | .goto l' => Cd (l' = l) (an I m L ks σ') | e => Q e σ') ⟨n, L.zip xs, h⟩) : Wp' P G (.scope c) Q ⟨n, env, heap⟩ := by
 intro w0 M S0 a w β S hr b k cs
 have hg : gotoIn l (.inScope c :: k) = some (.code rest :: .inScope c :: k) := by simp [gotoIn, hl]
 have key : ∀ m a w xs hh β S, I m xs hh → Rel G w0 M S0 (St.at n L xs hh) a w β S →
   ∃ e a' w', z5 G w0 M S0 n (Q e) a' w' ∧ Arrives P (lone (b.at a (.code rest :: .inScope c :: k)) cs w) b k cs e a' w' := by
  intro m
  induction m using Nat.strongRecOn with
  | _ m ih =>
   intro a w xs hh β S hI hr
   obtain ⟨e, a₁, w₁, ⟨σ', β', S', hq, hr', hn⟩, harr⟩ := h2 m xs hh hI w0 M S0 a w β S hr b (.inScope c :: k) cs
   cases e with
   | normal => exact ⟨.normal, a₁, w₁, ⟨σ', β', S', hq, hr', hn⟩, Steps.trans harr (.one step_inScope)⟩
   | exit id => exact ⟨.exit id, a₁, w₁, ⟨σ', β', S', hq, hr', hn⟩, fun k' hk => harr k' (by simp [exitTo, hk])⟩
   | goto l' =>
    obtain ⟨rfl, m', xs', h', hcut', hlt, hI'⟩ := hq
    have hr2 := hr'.cut hcut'
    rw [hn] at hr2
    obtain ⟨e₂, a₂, w₂, hq₂, harr₂⟩ := ih m' hlt a₁ w₁ xs' h' _ S' hI' hr2
    exact ⟨e₂, a₂, w₂, hq₂, .of_steps (harr _ hg) harr₂⟩
   | ret => exact ⟨_, a₁, w₁, ⟨σ', β', S', hq, hr', hn⟩, harr⟩
   | panic ch => exact ⟨_, a₁, w₁, ⟨σ', β', S', hq, hr', hn⟩, harr⟩
   | outgrown => exact ⟨_, a₁, w₁, ⟨σ', β', S', hq, hr', hn⟩, harr⟩
 obtain ⟨e, a₁, w₁, ⟨σ', β', S', hq, hr', hn⟩, harr⟩ := h1 w0 M S0 a w β S hr b (.inScope c :: k) cs
 cases e with
 | normal => exact ⟨.normal, a₁, w₁, ⟨σ', β', S', hq, hr', hn⟩, .head step_scope (Steps.trans harr (.one step_inScope))⟩
 | exit id => exact ⟨.exit id, a₁, w₁, ⟨σ', β', S', hq, hr', hn⟩, fun k' hk => .head step_scope (harr k' (by simp [exitTo, hk]))⟩
 | goto l' =>
  obtain ⟨rfl, m, xs, hh, hcut, hI⟩ := hq
  have hr2 := hr'.cut hcut
  rw [hn] at hr2
  obtain ⟨e₂, a₂, w₂, hq₂, harr₂⟩ := key m a₁ w₁ xs hh _ S' hI hr2
  exact ⟨e₂, a₂, w₂, hq₂, .of_steps (.head step_scope (harr _ hg)) harr₂⟩
 | ret => exact ⟨_, a₁, w₁, ⟨σ', β', S', hq, hr', hn⟩, .of_steps (.one step_scope) harr⟩
 | panic ch => exact ⟨_, a₁, w₁, ⟨σ', β', S', hq, hr', hn⟩, .of_steps (.one step_scope) harr⟩
 | outgrown => exact ⟨_, a₁, w₁, ⟨σ', β', S', hq, hr', hn⟩, .of_steps (.one step_scope) harr⟩
def Code.fst : Code → Code
 | .seq a _ => a
 | c => c
def Code.snd : Code → Code
 | .seq _ b => b
 | c => c
def Code.inner : Code → Code
 | .scope c => c
 | c => c
end Go.Ev

namespace Go.Ev.Ar
open Go Go.Ev Go.Proofs
theorem av4 (L : List UInt32) (n : Nat) (hn : n ≤ L.length) (hL : L.length < 2^40) :
  ji Tryz.prog G0 218 [.own 1000000 0 n 1] [(1000000, false, la L)] (.own 1000000 0 (ofN (nv (L.take n))).length 1) [(1000000, false, la L)] := by
 refine jq af Tryz.func218 ?_
 repeat' ((conv => whnf); first | refine rgE ?_)
 refine ⟨[], [0], [1000000], fun m xs h => ∃ k : Nat, m = k ∧ k ≤ n ∧ nv (L.take k) = nv (L.take n) ∧ xs = [.own 1000000 0 k 1] ∧ h = [(1000000, false, la L)], ⟨_, _, _, ⟨.inl rfl, rfl, rfl, by first | rfl | (repeat first | exact all_nil _ | refine bm _ _ _ _ _ ?_)⟩, n, rfl, Nat.le_refl _, rfl, rfl, rfl⟩, ?_⟩
 rintro m xs h ⟨k, rfl, hle, hcut, rfl, rfl⟩
 repeat' ((conv => whnf); first | refine rgE ?_ | refine Cd.mk rfl ?_ | refine Br.t ?_ | refine Br.f ?_ | with_reducible refine Br.dec (fun _ => ?_) (fun _ => ?_) | refine ah.mk _ (agd _ _ _ (by first | with_reducible exact cp _ | with_reducible exact bw _ | exact cp _ | exact bw _ | rfl) (by first | omega | (simp only [List.length_set]; omega))) ?_ | refine an.cu _ _ ?_ | ((with_reducible refine EqE.idW ?_); with_reducible refine EqE.mk _ (aj (by omega) (by omega)) ?_) | refine Cd.om ?_)
 ·rename_i h0 h1
  have e : ((m : Int) - 1).toNat = m - 1 := by omega
  have e0 : ((m : Int) - 1 - 0).toNat = m - 1 := by omega
  rw [e] at h1
  refine ⟨_, ⟨m - 1, rfl, by omega, ?_, ?_, rfl⟩, by omega⟩
  ·rw [← hcut, show m = m - 1 + 1 by omega, ay, show m - 1 + 1 - 1 = m - 1 by omega, show (L.getD (m - 1) 0).toNat = 0 by omega]; simp
  ·show [A.own 1000000 0 ((m : Int) - 1 - 0).toNat 1] = _
   rw [e0]
 ·rename_i h0 h1
  have e : ((m : Int) - 1).toNat = m - 1 := by omega
  rw [e] at h1
  have hl : (L.take m).length = m := by rw [List.length_take]; omega
  have := aku (l := L.take m) (.inr (by rw [hl, List.getD_eq_getElem?_getD, List.getElem?_take, if_pos (by omega), ← List.getD_eq_getElem?_getD]; omega))
  refine fo.own 2 rfl ?_ rfl
  show A.own 1000000 0 m 1 = _
  rw [← hcut, this, hl]
 ·rename_i h0
  obtain rfl : m = 0 := by omega
  refine fo.own 2 rfl ?_ rfl
  show A.own 1000000 0 0 1 = _
  rw [← hcut, List.take_zero, vp, bh]; rfl
set_option maxHeartbeats 2000000 in
theorem a1z (a : List UInt32) (n : Int) (ha : a.length < 2^30) (hn : n ≤ 2^30) (h0 : nv a ≠ 0) :
  ji Tryz.prog G0 216 [.d (sl a), .d (.int .i64 n)] [] (.own 25 0 (ofN (nv a * 2 ^ n.toNat)).length 1) [(25, false, la (aee (nv a * 2 ^ n.toNat) ((ofN (nv a)).length + n.toNat / 32 + 1)))] := by
 have h1 := cb a
 have h0' : (ofN (nv a)).length ≠ 0 := fun h => h0 (bp.1 h)
 refine jq af Tryz.func216 ?_
 repeat' ((conv => whnf); first | with_reducible refine ag.data ?_ | with_reducible refine Br.bf fun _ => ?_ | refine aa.mk _ _ (fg _ (by omega)) ?_ | refine rgE ?_ | refine Cd.mk rfl ?_ | ((with_reducible refine EqE.idW ?_); first | refine EqE.mk _ (agk _ 32 (by omega)) ?_ | with_reducible refine EqE.mk _ (qx _ (by omega)) ?_ | with_reducible refine EqE.mk _ (ax _ (by omega)) ?_) | ((with_reducible refine EqE.idM ?_); refine EqE.mk _ (ad0 _ 32) ?_) | ((with_reducible refine EqE.idI ?_); refine EqE.mk _ (a0r _) ?_) | ((with_reducible refine EqE.idR ?_); refine EqE.mk _ (ns _) ?_) | refine Cd.om ?_)
 generalize hA : ofN (nv a) = A at *
 have hvA : nv A = nv a := by rw [← hA, aw]
 have hs : n.toNat % 32 < 32 := Nat.mod_lt _ (by decide)
 have hN : n.toNat = 32 * (n.toNat / 32) + n.toNat % 32 := (Nat.div_add_mod _ _).symm
 have hN2 : n.toNat ≤ 2^30 := by omega
 generalize hqe : n.toNat / 32 = q at *
 generalize hse : n.toNat % 32 = s at *
 skip
 refine ⟨[], [0,5,6,7,29,30], [25], fun m xs h => ∃ (n i : Nat) (l : List UInt32), m = A.length + 1 - i ∧ n = A.length + q + 1 ∧ i ≤ A.length + 1 ∧ l.length = n ∧ nv l + Pw (q + i) * (at_ A (i - 1) * 2 ^ s / 4294967296) = Pw q * (nv (A.take i) * 2 ^ s) ∧ (∀ j, q + i ≤ j → (l.getD j 0).toNat = 0) ∧
  xs = [.d (sl A), .d (.int .i64 q), .d (.int .i64 s), .own 25 0 n 1, .d (.int .i64 ((n - q : Int).toNat : Nat)), .d (.int .i64 i)] ∧ h = [(25, false, la l)],
  ⟨_, _, _, ⟨.inl rfl, rfl, rfl, by first | rfl | (repeat first | exact all_nil _ | refine bm _ _ _ _ _ ?_)⟩, _, 0, _, rfl, ?_, by omega, by simp, ?_, fun j _ => iy _ _, rfl, rfl⟩, ?_⟩
 ·omega
 ·rw [show at_ A ((0 : Nat) - 1 : Int) = 0 from rfl, bo]; simp
 rintro m xs h ⟨n', i, l, rfl, hn', hi, hl, hv, hz, rfl, rfl⟩
 have hx1 := oz A i
 have hx2 := oz A (i - 1)
 have hy1 := ahd hx1 hs
 have hy2 := ahd hx2 hs
 repeat' ((conv => whnf); first | refine ag.own (jl.au (av4 l n' (by omega) (by omega)) [(1000000, 25)] [] (.own 25 0 (ofN (nv (l.take n'))).length 1) [(25, false, la l)] [] ?_) | refine aa.mk _ _ (afj _ _) ?_ | refine rgE ?_ | refine Cd.mk rfl ?_ | with_reducible refine Br.dec (fun _ => ?_) (fun _ => ?_) | refine an.cu _ _ ?_ | ((with_reducible refine EqE.idW ?_); first | with_reducible refine EqE.mk _ (ar6 _ _ (by omega) (by omega)) ?_ | with_reducible refine EqE.mk _ (axh _ _ (by omega) (by omega)) ?_ | with_reducible refine EqE.mk _ (j8 _) ?_ | with_reducible refine EqE.mk _ (qx _ (by omega)) ?_ | with_reducible refine EqE.mk _ (ax _ (by omega)) ?_ | with_reducible refine EqE.mk _ (aj (by omega) (by omega)) ?_) | ((with_reducible refine EqE.idF ?_); refine EqE.mk _ (l4 _ 4294967296 _ _ rfl) ?_) | ((with_reducible refine EqE.idS ?_); refine EqE.mk _ (ld _ _ _ _ (by first | with_reducible exact cp _ | with_reducible exact bw _ | exact cp _ | exact bw _ | rfl) (by first | omega | (simp only [List.length_set]; omega)) (by omega)) ?_) | refine Cd.om ?_)
 ·rename_i h0
  refine ⟨_, ⟨n', i + 1, _, rfl, hn', by omega, ?_, ?_, ?_, rfl, rfl⟩, by omega⟩
  ·simp [hl]
  ·have hc := adj hx2 hs
   have hd := as7 (x := at_ A i) hs hc
   rw [ap0 hc, mo (by omega) (hz _ (by omega)) (by omega), ay, ← gg, show q + (i + 1) = q + i + 1 from rfl, c5, show ((i + 1 : Nat) : Int) - 1 = i by omega, ← hd]
   have h5 := lu (Pw (q + i)) (at_ A i * 2 ^ s + at_ A (i - 1) * 2 ^ s / 4294967296)
   have h6 : Pw q * ((nv (A.take i) + Pw i * at_ A i) * 2 ^ s) = Pw q * (nv (A.take i) * 2 ^ s) + Pw (q + i) * (at_ A i * 2 ^ s) := by
    rw [w5]; grind
   rw [h6]
   rw [Nat.mul_add] at h5
   omega
  ·intro j hj
   rw [getD_set_ne (by omega)]; exact hz j (by omega)
 ·rename_i h2
  have e : i = A.length + 1 := by omega
  have e0 : at_ A (i - 1) = 0 := by rw [show (i : Int) - 1 = ((A.length : Nat) : Int) by omega, gg, oh (by omega)]
  rw [e0, List.take_of_length_le (by omega), hvA] at hv
  have hnl : nv l = nv a * 2 ^ n.toNat := by
   rw [hN, ← w6, show nv l = Pw q * (nv a * 2 ^ s) by simpa using hv]; grind
  refine fo.own 4 rfl ?_ ?_
  ·show Ev.A.own 25 0 _ 1 = Ev.A.own 25 0 _ 1
   rw [List.take_of_length_le (by omega), hnl]
  ·show [(25, false, la l)] = _
   rw [← ase (l := l) (by omega) hnl]
theorem ay0 (a : List UInt32) (n : Nat) (ha : a.length < 2^30) (hn : n ≤ 31) (h0 : nv a ≠ 0) :
  ji Tryz.prog G0 235 [.d (sl a), .d (.int .i64 n)] [] (.own 8 0 (ofN (nv a * 2 ^ n)).length 1) [(8, false, la (ofN (nv a * 2 ^ n)))] := by
 have h := (a1z a n ha (by omega) h0).shrink ((ofN (nv a * 2 ^ n)).length)
 rw [Int.toNat_natCast] at h
 rw [show (la (aee (nv a * 2 ^ n) ((ofN (nv a)).length + n / 32 + 1))).take (ofN (nv a * 2 ^ n)).length = la (ofN (nv a * 2 ^ n)) by
  unfold la bj; rw [← List.map_take, ← List.map_take, auc]] at h
 generalize ofN (nv a * 2 ^ n) = A at *
 refine jq af Tryz.func235 ?_
 have hh := af9 n
 rw [show min (max (n : Int) 0) 100000 = n by omega] at hh
 repeat' ((conv => whnf); first | refine ag.own (jl.au (h) [] [(25, 8)] (.own 8 0 A.length 1) [(8, false, la A)] [] ?_) | refine aa.mk _ _ (hh) ?_ | refine ag.data ?_ | refine rgE ?_)
 exact fo.own 4 rfl rfl rfl
end Go.Ev.Ar
