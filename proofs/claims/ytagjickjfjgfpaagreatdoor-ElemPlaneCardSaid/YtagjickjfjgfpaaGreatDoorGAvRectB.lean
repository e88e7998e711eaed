/- Contracts of the given functions, on data. Conditions stand in each theorem. -/
import Derived.Test.YtagjickjfjgfpaaGreatDoorGAvReal
import Derived.Test.YtagjickjfjgfpaaGreatDoorGAvRealB
import Derived.Test.YtagjickjfjgfpaaGreatDoorGEvU
set_option linter.unusedSimpArgs false
set_option linter.unusedVariables false
namespace Go.Ev.Ar
open Go Go.Ev Go.Proofs

/-- A rectangle: two intervals. -/
abbrev Rq := Cq × Cq
def rof2 (z : Rq) : Rq := (rof z.1, rof z.2)
def Ord2 (z : Rq) : Prop := Ord z.1 ∧ Ord z.2
def Hr (h : Nat) (z : Rq) : Prop := Hc h z.1 ∧ Hc h z.2
theorem _root_.Go.Ev.Ar.Hr.mono {a b : Nat} {z : Rq} (h : Hr a z) (hab : a ≤ b) : Hr b z := ⟨h.1.mono hab, h.2.mono hab⟩
theorem _root_.Go.Ev.Ar.Hr.rof2 {a : Nat} {z : Rq} (h : Hr a z) : Hr a (rof2 z) := ⟨h.1.rof, h.2.rof⟩
theorem rof2_ord (z : Rq) : Ord2 (rof2 z) := ⟨rof_ord _, rof_ord _⟩
theorem rof2_self {z : Rq} (h : Ord2 z) : rof2 z = z := Prod.ext (rof_self h.1) (rof_self h.2)
instance (z : Rq) : Decidable (Ord2 z) := inferInstanceAs (Decidable (z.1.1 ≤ z.1.2 ∧ z.2.1 ≤ z.2.2))
def radd (z w : Rq) : Rq := (iadd z.1 w.1, iadd z.2 w.2)
def rsub (z w : Rq) : Rq := (isub z.1 w.1, isub z.2 w.2)
def rneg (z : Rq) : Rq := (ineg z.1, ineg z.2)
def rmul (z w : Rq) : Rq := (isub (imul z.1 w.1) (imul z.2 w.2), iadd (imul z.1 w.2) (imul z.2 w.1))
def rnorm (z : Rq) : Cq := iadd (ipow z.1 2) (ipow z.2 2)
def rsq (z : Rq) : Rq := (isub (ipow z.1 2) (ipow z.2 2), iadd (imul z.1 z.2) (imul z.1 z.2))
def rpw (z : Rq) : Nat → Rq
  | 0 => ((1, 1), (0, 0))
  | n + 1 => rmul (rpw z n) z
def rround (z : Rq) (p : Int) : Rq := (iround z.1 p, iround z.2 p)
def rhull (z w : Rq) : Rq := (ihull z.1 w.1, ihull z.2 w.2)
def rinvE (z : Rq) (p : Int) : Rq × Int := if ihas (rnorm z) 0 then (((0, 0), (0, 0)), 11) else (((idivE z.1 (rnorm z) p).1, (idivE (ineg z.2) (rnorm z) p).1), 0)
def rdivE (z w : Rq) (p : Int) : Rq × Int := if ihas (rnorm w) 0 then (((0, 0), (0, 0)), 11) else (rround (rmul z (rinvE w p).1) p, 0)
def rmid (z : Rq) : Cq := ((z.1.1 + z.1.2) * dof 1 (-1), (z.2.1 + z.2.2) * dof 1 (-1))
theorem radd_ord {z w : Rq} (h : Ord2 z) (k : Ord2 w) : Ord2 (radd z w) := ⟨iadd_ord h.1 k.1, iadd_ord h.2 k.2⟩
theorem rsub_ord {z w : Rq} (h : Ord2 z) (k : Ord2 w) : Ord2 (rsub z w) := ⟨isub_ord h.1 k.1, isub_ord h.2 k.2⟩
theorem rneg_ord {z : Rq} (h : Ord2 z) : Ord2 (rneg z) := ⟨ineg_ord h.1, ineg_ord h.2⟩
theorem rmul_ord (z w : Rq) : Ord2 (rmul z w) := ⟨isub_ord (imul_ord _ _) (imul_ord _ _), iadd_ord (imul_ord _ _) (imul_ord _ _)⟩
theorem rnorm_ord {z : Rq} (h : Ord2 z) : Ord (rnorm z) := iadd_ord (ipow_ord 2 h.1) (ipow_ord 2 h.2)
theorem rsq_ord {z : Rq} (h : Ord2 z) : Ord2 (rsq z) := ⟨isub_ord (ipow_ord 2 h.1) (ipow_ord 2 h.2), iadd_ord (imul_ord _ _) (imul_ord _ _)⟩
theorem rpw_ord (z : Rq) : ∀ n, Ord2 (rpw z n)
  | 0 => by unfold Ord2 rpw Ord; dsimp only; exact ⟨by grind, by grind⟩
  | n + 1 => rmul_ord _ _
theorem rhull_ord {z w : Rq} (h : Ord2 z) (k : Ord2 w) : Ord2 (rhull z w) := ⟨ihull_ord h.1 k.1, ihull_ord h.2 k.2⟩
theorem rround_ord {z : Rq} (p : Int) (h : Ord2 z) : Ord2 (rround z p) := ⟨iround_ord p h.1, iround_ord p h.2⟩
theorem rmul_rof (z w : Rq) : rmul (rof2 z) (rof2 w) = rmul z w := by
  unfold rmul rof2; dsimp only
  rw [imul_rof, imul_rof2, imul_rof, imul_rof2, imul_rof, imul_rof2, imul_rof, imul_rof2]
theorem Hr.radd {a b c : Nat} {z w : Rq} (h : Hr a z) (k : Hr b w) (hc : max a b < c) : Hr c (radd z w) := ⟨h.1.iadd k.1 hc, h.2.iadd k.2 hc⟩
theorem Hr.rsub {a b c : Nat} {z w : Rq} (h : Hr a z) (k : Hr b w) (hc : max a b < c) : Hr c (rsub z w) := ⟨h.1.isub k.1 hc, h.2.isub k.2 hc⟩
theorem Hr.rneg {a : Nat} {z : Rq} (h : Hr a z) : Hr a (rneg z) := ⟨h.1.ineg, h.2.ineg⟩
theorem Hr.rmul {a b c : Nat} {z w : Rq} (h : Hr a z) (k : Hr b w) (hc : a + b < c) : Hr c (rmul z w) :=
  ⟨(h.1.imul k.1 (c := a + b) (Nat.le_refl _)).isub (h.2.imul k.2 (c := a + b) (Nat.le_refl _)) (by omega), (h.1.imul k.2 (c := a + b) (Nat.le_refl _)).iadd (h.2.imul k.1 (c := a + b) (Nat.le_refl _)) (by omega)⟩
theorem c2_le : clampP 2 ≤ 2 := by decide
theorem Hr.rnorm {a c : Nat} {z : Rq} (h : Hr a z) (hc : a * 2 + 1 < c) : Hc c (rnorm z) := (h.1.ipow 2 c2_le (c := a * 2 + 1) (by omega)).iadd (h.2.ipow 2 c2_le (c := a * 2 + 1) (by omega)) (by omega)
theorem Hr.rsq {a c : Nat} {z : Rq} (h : Hr a z) (hc : a * 2 + 1 < c) : Hr c (rsq z) := ⟨(h.1.ipow 2 c2_le (c := a * 2 + 1) (by omega)).isub (h.2.ipow 2 c2_le (c := a * 2 + 1) (by omega)) (by omega), (h.1.imul h.2 (c := a * 2) (by omega)).iadd (h.1.imul h.2 (c := a * 2) (by omega)) (by omega)⟩
theorem Hr.rpw {a : Nat} {z : Rq} (h : Hr a z) : ∀ n, Hr ((a + 1) * n + 1) (rpw z n)
  | 0 => ⟨⟨Ht.one.mono (by omega), Ht.one.mono (by omega)⟩, ⟨.zero _, .zero _⟩⟩
  | n + 1 => (Hr.rpw h n).rmul h (by rw [Nat.mul_add]; omega)
theorem Hr.rhull {a : Nat} {z w : Rq} (h : Hr a z) (k : Hr a w) : Hr a (rhull z w) := ⟨h.1.ihull k.1, h.2.ihull k.2⟩
theorem Hr.rround {h K : Nat} {z : Rq} {p : Int} (hz : Hr h z) (hp : min (max p 1) 4000 ≤ K) : Hr (h + 2 * K + 2) (rround z p) := ⟨hz.1.iround hp, hz.2.iround hp⟩
theorem Hr.zero (a : Nat) : Hr a ((0, 0), (0, 0)) := ⟨Go.Ev.Hc.zero a, Go.Ev.Hc.zero a⟩
theorem Hr.rinvE {h K : Nat} {z : Rq} {p : Int} (hz : Hr h z) (hp : min (max p 1) 4000 ≤ K) : Hr (h + (h * 2 + 2) + 4 * K + 6) (rinvE z p).1 := by
  unfold Go.Ev.Ar.rinvE
  split
  · exact Hr.zero _
  · exact ⟨hz.1.idivE (hz.rnorm (by omega)) hp, hz.2.ineg.idivE (hz.rnorm (by omega)) hp⟩
theorem Hr.rdivE {h g K : Nat} {z w : Rq} {p : Int} (hz : Hr h z) (hw : Hr g w) (hp : min (max p 1) 4000 ≤ K) : Hr (h + (g + (g * 2 + 2) + 4 * K + 6) + 1 + 2 * K + 2) (rdivE z w p).1 := by
  unfold Go.Ev.Ar.rdivE
  split
  · exact Hr.zero _
  · exact (hz.rmul (hw.rinvE hp) (c := h + (g + (g * 2 + 2) + 4 * K + 6) + 1) (by omega)).rround hp
theorem Hr.rmid {a : Nat} {z : Rq} (h : Hr a z) : Hc (a + 165) (rmid z) := ⟨(h.1.1.add h.1.2 (c := a + 1) (by omega)).mul (Ht.cst (m := 1) (e := -1) (by decide)) (by omega), (h.2.1.add h.2.2 (c := a + 1) (by omega)).mul (Ht.cst (m := 1) (e := -1) (by decide)) (by omega)⟩
/-- A rectangle, as data. -/
def rqD (z : Rq) : D := rcD z.1 z.2
theorem RqR.of {z : Rq} (h : Hr 1048576 z) : RcR (rqD z) z.1 z.2 := .of h.1 h.2
theorem rtOf_is {x : D} {c : Cq} (hx : CxR x c) (hc : Hc 1000000 c) : Sim Tryz.prog G0 false 127 [x] (rqD ((c.1, c.1), (c.2, c.2))) := by
  obtain ⟨h1, h2⟩ := hx
  have g1 := rlOf_is h1 hc.1
  have g2 := rlOf_is h2 hc.2
  refine sim_mk tab_ok Tryz.func127 rfl (by kernel_rfl) rfl ⟨Nat.le_of_ble_eq_true rfl, Nat.le_of_ble_eq_true rfl⟩ ?_
  repeat' ((conv => whnf); first
    | refine CallE.mk _ _ (g1) ?_
    | refine CallE.mk _ _ (g2) ?_
    | refine RegE.early (Cd.mk (show regOk _ _ _ _ = true by kernel_rfl) ?_)
    | refine Cd.mk rfl ?_
    | (refine TkE.fL ?_; (conv => whnf); fail_if_success (show forceL _ _))
    | refine Res.mk ?_
    | ((with_reducible refine EqE.idS ?_); (refine EqE.fP ?_; (conv => whnf); fail_if_success (show forceL _ _)))
    | refine Cd.mk (Nat.le_of_ble_eq_true rfl) ?_)
  rfl
theorem rtAdd_is {x y : D} {z w r : Rq} (hx : RcR x z.1 z.2) (hy : RcR y w.1 w.2) (hz : Hr 1000000 z) (hw : Hr 1000000 w) (h : radd (rof2 z) (rof2 w) = r) : Sim Tryz.prog G0 false 131 [x, y] (rqD r) := by
  subst h
  obtain ⟨a, b⟩ := z
  obtain ⟨c, d⟩ := w
  obtain ⟨h1, h2⟩ := hx
  obtain ⟨h3, h4⟩ := hy
  have g1 := rlAdd_is h1 h3 hz.1 hw.1 rfl
  have g2 := rlAdd_is h2 h4 hz.2 hw.2 rfl
  refine sim_mk tab_ok Tryz.func131 rfl (by kernel_rfl) rfl ⟨Nat.le_of_ble_eq_true rfl, Nat.le_of_ble_eq_true rfl⟩ ?_
  repeat' ((conv => whnf); first
    | refine CallE.mk _ _ (g1) ?_
    | refine CallE.mk _ _ (g2) ?_
    | refine RegE.early (Cd.mk (show regOk _ _ _ _ = true by kernel_rfl) ?_)
    | refine Cd.mk rfl ?_
    | (refine TkE.fL ?_; (conv => whnf); fail_if_success (show forceL _ _))
    | refine Res.mk ?_
    | ((with_reducible refine EqE.idS ?_); (refine EqE.fP ?_; (conv => whnf); fail_if_success (show forceL _ _)))
    | refine Cd.mk (Nat.le_of_ble_eq_true rfl) ?_)
  rfl
theorem rtSub_is {x y : D} {z w r : Rq} (hx : RcR x z.1 z.2) (hy : RcR y w.1 w.2) (hz : Hr 1000000 z) (hw : Hr 1000000 w) (h : rsub (rof2 z) (rof2 w) = r) : Sim Tryz.prog G0 false 159 [x, y] (rqD r) := by
  subst h
  obtain ⟨a, b⟩ := z
  obtain ⟨c, d⟩ := w
  obtain ⟨h1, h2⟩ := hx
  obtain ⟨h3, h4⟩ := hy
  have g1 := rlSub_is h1 h3 hz.1 hw.1 rfl
  have g2 := rlSub_is h2 h4 hz.2 hw.2 rfl
  refine sim_mk tab_ok Tryz.func159 rfl (by kernel_rfl) rfl ⟨Nat.le_of_ble_eq_true rfl, Nat.le_of_ble_eq_true rfl⟩ ?_
  repeat' ((conv => whnf); first
    | refine CallE.mk _ _ (g1) ?_
    | refine CallE.mk _ _ (g2) ?_
    | refine RegE.early (Cd.mk (show regOk _ _ _ _ = true by kernel_rfl) ?_)
    | refine Cd.mk rfl ?_
    | (refine TkE.fL ?_; (conv => whnf); fail_if_success (show forceL _ _))
    | refine Res.mk ?_
    | ((with_reducible refine EqE.idS ?_); (refine EqE.fP ?_; (conv => whnf); fail_if_success (show forceL _ _)))
    | refine Cd.mk (Nat.le_of_ble_eq_true rfl) ?_)
  rfl
theorem rtMul_is {x y : D} {z w r : Rq} (hx : RcR x z.1 z.2) (hy : RcR y w.1 w.2) (hz : Hr 200000 z) (hw : Hr 200000 w) (h : rmul z w = r) : Sim Tryz.prog G0 false 129 [x, y] (rqD r) := by
  subst h
  obtain ⟨a, b⟩ := z
  obtain ⟨c, d⟩ := w
  obtain ⟨h1, h2⟩ := hx
  obtain ⟨h3, h4⟩ := hy
  have m1 := rlMul_is h1 h3 hz.1 hw.1 rfl
  have m2 := rlMul_is h2 h4 hz.2 hw.2 rfl
  have m3 := rlMul_is h1 h4 hz.1 hw.2 rfl
  have m4 := rlMul_is h2 h3 hz.2 hw.1 rfl
  have k1 : Hc 400000 (imul a c) := hz.1.imul hw.1 (by decide)
  have k2 : Hc 400000 (imul b d) := hz.2.imul hw.2 (by decide)
  have k3 : Hc 400000 (imul a d) := hz.1.imul hw.2 (by decide)
  have k4 : Hc 400000 (imul b c) := hz.2.imul hw.1 (by decide)
  have s := rlSub_is (r := isub (imul a c) (imul b d)) (.of (k1.mono (by decide))) (.of (k2.mono (by decide))) (k1.mono (by decide)) (k2.mono (by decide)) (by rw [rof_self (imul_ord _ _), rof_self (imul_ord _ _)])
  have t := rlAdd_is (r := iadd (imul a d) (imul b c)) (.of (k3.mono (by decide))) (.of (k4.mono (by decide))) (k3.mono (by decide)) (k4.mono (by decide)) (by rw [rof_self (imul_ord _ _), rof_self (imul_ord _ _)])
  unfold rmul; dsimp only
  generalize isub (imul a c) (imul b d) = S at *
  generalize iadd (imul a d) (imul b c) = T at *
  generalize imul a c = M1 at *
  generalize imul b d = M2 at *
  generalize imul a d = M3 at *
  generalize imul b c = M4 at *
  obtain ⟨_, _⟩ := M1
  obtain ⟨_, _⟩ := M2
  obtain ⟨_, _⟩ := M3
  obtain ⟨_, _⟩ := M4
  obtain ⟨_, _⟩ := S
  obtain ⟨_, _⟩ := T
  refine sim_mk tab_ok Tryz.func129 rfl (by kernel_rfl) rfl ⟨Nat.le_of_ble_eq_true rfl, Nat.le_of_ble_eq_true rfl⟩ ?_
  repeat' ((conv => whnf); first
    | refine CallE.mk _ _ (m1) ?_
    | refine CallE.mk _ _ (m2) ?_
    | refine CallE.mk _ _ (m3) ?_
    | refine CallE.mk _ _ (m4) ?_
    | refine CallE.mk _ _ (s) ?_
    | refine CallE.mk _ _ (t) ?_
    | refine RegE.early (Cd.mk (show regOk _ _ _ _ = true by kernel_rfl) ?_)
    | refine Cd.mk rfl ?_
    | (refine TkE.fL ?_; (conv => whnf); fail_if_success (show forceL _ _))
    | refine Res.mk ?_
    | ((with_reducible refine EqE.idS ?_); (refine EqE.fP ?_; (conv => whnf); fail_if_success (show forceL _ _)))
    | refine Cd.mk (Nat.le_of_ble_eq_true rfl) ?_)
  rfl
theorem imul_two {m : Cq} (h : Ord m) : imul m (dof 2 0, dof 2 0) = iadd m m := by
  obtain ⟨p, q⟩ := m
  unfold Ord at h; dsimp only at h
  have e : ∀ d : Dyadic, d * dof 2 0 = d + d := fun d => by
    rw [show dof 2 0 = 1 + 1 by decide]; grind
  unfold imul iadd; dsimp only
  rw [e, e]
  unfold mn mx
  congr 1 <;> grind
theorem rtTwice_is {x : D} {m r : Cq} (hx : CxR x m) (hm : Hc 200000 m) (h : imul m (dof 2 0, dof 2 0) = r) : Sim Tryz.prog G0 false 181 [x] (cxD r) := by
  have ht : Ht 164 (dof 2 0) := Ht.cst (by decide)
  have s1 := rlOf_is (.of (ht.mono (show 164 ≤ 1048576 by decide))) (ht.mono (by decide))
  have h2 : Hc 164 (dof 2 0, dof 2 0) := ⟨ht, ht⟩
  have s2 := rlMul_is hx (.of (h2.mono (by decide))) hm (h2.mono (by decide)) h
  obtain ⟨_, _⟩ := hx
  refine sim_mk tab_ok Tryz.func181 rfl (by kernel_rfl) rfl ⟨Nat.le_of_ble_eq_true rfl, Nat.le_of_ble_eq_true rfl⟩ ?_
  repeat' ((conv => whnf); first
    | refine CallE.mk _ _ (dofn_sim 2 (by decide) (by decide)) ?_
    | refine CallE.mk _ _ (s1) ?_
    | refine CallE.mk _ _ (s2) ?_
    | refine RegE.early (Cd.mk (show regOk _ _ _ _ = true by kernel_rfl) ?_)
    | refine Cd.mk rfl ?_
    | (refine TkE.fL ?_; (conv => whnf); fail_if_success (show forceL _ _))
    | refine Res.mk ?_
    | ((with_reducible refine EqE.idS ?_); (refine EqE.fP ?_; (conv => whnf); fail_if_success (show forceL _ _)))
    | refine Cd.mk (Nat.le_of_ble_eq_true rfl) ?_)
  rfl
theorem rtSquare_is {x : D} {z r : Rq} (hx : RcR x z.1 z.2) (hz : Hr 16000 z) (h : rsq (rof2 z) = r) : Sim Tryz.prog G0 false 135 [x] (rqD r) := by
  subst h
  obtain ⟨a, b⟩ := z
  obtain ⟨h1, h2⟩ := hx
  have g1 := rlSquare_is h1 hz.1 rfl
  have g2 := rlSquare_is h2 hz.2 rfl
  have k1 : Hc 32001 (ipow (rof a) 2) := hz.1.rof.ipow 2 c2_le (by decide)
  have k2 : Hc 32001 (ipow (rof b) 2) := hz.2.rof.ipow 2 c2_le (by decide)
  have m := rlMul_is (r := imul (rof a) (rof b)) h1 h2 (hz.1.mono (by decide)) (hz.2.mono (by decide)) (by rw [imul_rof, imul_rof2])
  have km : Hc 32000 (imul (rof a) (rof b)) := hz.1.rof.imul hz.2.rof (by decide)
  have t := rtTwice_is (.of (km.mono (by decide))) (km.mono (by decide)) (imul_two (imul_ord _ _))
  have s := rlSub_is (r := isub (ipow (rof a) 2) (ipow (rof b) 2)) (.of (k1.mono (by decide))) (.of (k2.mono (by decide))) (k1.mono (by decide)) (k2.mono (by decide)) (by rw [rof_self (ipow_ord 2 (rof_ord a)), rof_self (ipow_ord 2 (rof_ord b))])
  unfold rsq rof2; dsimp only
  generalize isub (ipow (rof a) 2) (ipow (rof b) 2) = S at *
  generalize iadd (imul (rof a) (rof b)) (imul (rof a) (rof b)) = T at *
  generalize ipow (rof a) 2 = P1 at *
  generalize ipow (rof b) 2 = P2 at *
  generalize imul (rof a) (rof b) = M at *
  obtain ⟨_, _⟩ := P1
  obtain ⟨_, _⟩ := P2
  obtain ⟨_, _⟩ := M
  obtain ⟨_, _⟩ := S
  obtain ⟨_, _⟩ := T
  refine sim_mk tab_ok Tryz.func135 rfl (by kernel_rfl) rfl ⟨Nat.le_of_ble_eq_true rfl, Nat.le_of_ble_eq_true rfl⟩ ?_
  repeat' ((conv => whnf); first
    | refine CallE.mk _ _ (g1) ?_
    | refine CallE.mk _ _ (g2) ?_
    | refine CallE.mk _ _ (s) ?_
    | refine CallE.mk _ _ (m) ?_
    | refine CallE.mk _ _ (t) ?_
    | refine RegE.early (Cd.mk (show regOk _ _ _ _ = true by kernel_rfl) ?_)
    | refine Cd.mk rfl ?_
    | (refine TkE.fL ?_; (conv => whnf); fail_if_success (show forceL _ _))
    | refine Res.mk ?_
    | ((with_reducible refine EqE.idS ?_); (refine EqE.fP ?_; (conv => whnf); fail_if_success (show forceL _ _)))
    | refine Cd.mk (Nat.le_of_ble_eq_true rfl) ?_)
  rfl
theorem rtNorm_is {x : D} {z : Rq} {r : Cq} (hx : RcR x z.1 z.2) (hz : Hr 16000 z) (h : rnorm (rof2 z) = r) : Sim Tryz.prog G0 false 221 [x] (cxD r) := by
  subst h
  obtain ⟨a, b⟩ := z
  obtain ⟨h1, h2⟩ := hx
  have g1 := rlSquare_is h1 hz.1 rfl
  have g2 := rlSquare_is h2 hz.2 rfl
  have k1 : Hc 32001 (ipow (rof a) 2) := hz.1.rof.ipow 2 c2_le (by decide)
  have k2 : Hc 32001 (ipow (rof b) 2) := hz.2.rof.ipow 2 c2_le (by decide)
  have s := rlAdd_is (r := iadd (ipow (rof a) 2) (ipow (rof b) 2)) (.of (k1.mono (by decide))) (.of (k2.mono (by decide))) (k1.mono (by decide)) (k2.mono (by decide)) (by rw [rof_self (ipow_ord 2 (rof_ord a)), rof_self (ipow_ord 2 (rof_ord b))])
  unfold rnorm rof2; dsimp only
  generalize iadd (ipow (rof a) 2) (ipow (rof b) 2) = S at *
  generalize ipow (rof a) 2 = P1 at *
  generalize ipow (rof b) 2 = P2 at *
  obtain ⟨_, _⟩ := P1
  obtain ⟨_, _⟩ := P2
  obtain ⟨_, _⟩ := S
  refine sim_mk tab_ok Tryz.func221 rfl (by kernel_rfl) rfl ⟨Nat.le_of_ble_eq_true rfl, Nat.le_of_ble_eq_true rfl⟩ ?_
  repeat' ((conv => whnf); first
    | refine CallE.mk _ _ (g1) ?_
    | refine CallE.mk _ _ (g2) ?_
    | refine CallE.mk _ _ (s) ?_
    | refine RegE.early (Cd.mk (show regOk _ _ _ _ = true by kernel_rfl) ?_)
    | refine Cd.mk rfl ?_
    | (refine TkE.fL ?_; (conv => whnf); fail_if_success (show forceL _ _))
    | refine Res.mk ?_
    | ((with_reducible refine EqE.idS ?_); (refine EqE.fP ?_; (conv => whnf); fail_if_success (show forceL _ _)))
    | refine Cd.mk (Nat.le_of_ble_eq_true rfl) ?_)
  rfl
theorem rtHull_is {x y : D} {z w r : Rq} (hx : RcR x z.1 z.2) (hy : RcR y w.1 w.2) (hz : Hr 1000000 z) (hw : Hr 1000000 w) (h : rhull (rof2 z) (rof2 w) = r) : Sim Tryz.prog G0 false 105 [x, y] (rqD r) := by
  subst h
  obtain ⟨a, b⟩ := z
  obtain ⟨c, d⟩ := w
  obtain ⟨h1, h2⟩ := hx
  obtain ⟨h3, h4⟩ := hy
  have g1 := rlHull_is h1 h3 hz.1 hw.1 rfl
  have g2 := rlHull_is h2 h4 hz.2 hw.2 rfl
  refine sim_mk tab_ok Tryz.func105 rfl (by kernel_rfl) rfl ⟨Nat.le_of_ble_eq_true rfl, Nat.le_of_ble_eq_true rfl⟩ ?_
  repeat' ((conv => whnf); first
    | refine CallE.mk _ _ (g1) ?_
    | refine CallE.mk _ _ (g2) ?_
    | refine RegE.early (Cd.mk (show regOk _ _ _ _ = true by kernel_rfl) ?_)
    | refine Cd.mk rfl ?_
    | (refine TkE.fL ?_; (conv => whnf); fail_if_success (show forceL _ _))
    | refine Res.mk ?_
    | ((with_reducible refine EqE.idS ?_); (refine EqE.fP ?_; (conv => whnf); fail_if_success (show forceL _ _)))
    | refine Cd.mk (Nat.le_of_ble_eq_true rfl) ?_)
  rfl
theorem rtRound_is {x : D} {z r : Rq} (p : Int) (hx : RcR x z.1 z.2) (hz : Hr 100000 z) (h : rround (rof2 z) p = r) : Sim Tryz.prog G0 false 134 [x, .int .i64 p] (rqD r) := by
  subst h
  obtain ⟨a, b⟩ := z
  obtain ⟨h1, h2⟩ := hx
  have g1 := rlRound_is p h1 hz.1 rfl
  have g2 := rlRound_is p h2 hz.2 rfl
  refine sim_mk tab_ok Tryz.func134 rfl (by kernel_rfl) rfl ⟨Nat.le_of_ble_eq_true rfl, Nat.le_of_ble_eq_true rfl⟩ ?_
  repeat' ((conv => whnf); first
    | refine CallE.mk _ _ (g1) ?_
    | refine CallE.mk _ _ (g2) ?_
    | refine RegE.early (Cd.mk (show regOk _ _ _ _ = true by kernel_rfl) ?_)
    | refine Cd.mk rfl ?_
    | (refine TkE.fL ?_; (conv => whnf); fail_if_success (show forceL _ _))
    | refine Res.mk ?_
    | ((with_reducible refine EqE.idS ?_); (refine EqE.fP ?_; (conv => whnf); fail_if_success (show forceL _ _)))
    | refine Cd.mk (Nat.le_of_ble_eq_true rfl) ?_)
  rfl
/-- The cells of a power on the way. -/
def pwC (z : Rq) : Nat → List A
  | 0 => dyC 1 ++ dyC 1 ++ zeA ++ zeA
  | n + 1 => dyC (rpw z (n + 1)).1.1 ++ dyC (rpw z (n + 1)).1.2 ++ dyC (rpw z (n + 1)).2.1 ++ dyC (rpw z (n + 1)).2.2
def oneD : D := .agg [.bool (zneg (dman 1)), sl (ofN (dman 1).natAbs), .int .i64 (dexp 1), .bool (zneg (dman 1)), sl (ofN (dman 1).natAbs), .int .i64 (dexp 1), .bool false, sl [], .int .i64 0, .bool false, sl [], .int .i64 0]
theorem oneR : RcR oneD (1, 1) (0, 0) := .mk (.mk (.of (Ht.one.mono (by decide))) (.of (Ht.one.mono (by decide)))) (.mk dy0 dy0)
theorem rqD_zero : D.agg [.bool false, sl [], .int .i64 0, .bool false, sl [], .int .i64 0, .bool false, sl [], .int .i64 0, .bool false, sl [], .int .i64 0] = rqD ((0, 0), (0, 0)) := by rw [← ofN_zero]; rfl
end Go.Ev.Ar

namespace Go.Ev.Ar
open Go Go.Ev Go.Proofs

theorem rmul_rof_r (z w : Rq) : rmul z (rof2 w) = rmul z w := by
  unfold rmul rof2; dsimp only
  rw [imul_rof2, imul_rof2, imul_rof2, imul_rof2]
theorem rmul_rof_l (z w : Rq) : rmul (rof2 z) w = rmul z w := by
  unfold rmul rof2; dsimp only
  rw [imul_rof, imul_rof, imul_rof, imul_rof]
theorem rpw_rof (z : Rq) : ∀ n, rpw (rof2 z) n = rpw z n
  | 0 => rfl
  | n + 1 => by unfold rpw; rw [rpw_rof z n, rmul_rof_r]
theorem rtInv_is {x : D} {z r : Rq} {c : Int} (p : Int) (hx : RcR x z.1 z.2) (hz : Hr 5000 z) (h : rinvE (rof2 z) p = (r, c)) : Sim Tryz.prog G0 false 198 [x, .int .i64 p] (.tup [rqD r, .int .i64 c]) := by
  have s := rtNorm_is hx (hz.mono (by decide)) rfl
  have hN : Hc 10002 (rnorm (rof2 z)) := hz.rof2.rnorm (by decide)
  have oN := rnorm_ord (rof2_ord z)
  unfold rinvE at h
  generalize rnorm (rof2 z) = N at *
  obtain ⟨a, b⟩ := z
  obtain ⟨h1, h2⟩ := hx
  have kN := CxR.of (hN.mono (show 10002 ≤ 1048576 by decide))
  have eN := rof_self oN
  by_cases c0 : ihas N 0
  · rw [if_pos c0] at h; cases h
    have d := rlDiv_is (r := (0, 0)) (c := 11) p h1 kN (hz.1.mono (by decide)) (hN.mono (by decide)) (by rw [eN]; unfold idivE; rw [if_pos c0])
    obtain ⟨_, _⟩ := N
    refine sim_mk tab_ok Tryz.func198 rfl (by kernel_rfl) rfl ⟨Nat.le_of_ble_eq_true rfl, Nat.le_of_ble_eq_true rfl⟩ ?_
    repeat' ((conv => whnf); first
      | with_reducible refine CallX.data ?_
      | refine CallE.mk _ _ (s) ?_
      | refine CallE.mk _ _ (d) ?_
      | refine RegE.early (Cd.mk (show regOk _ _ _ _ = true by kernel_rfl) ?_)
      | refine Cd.mk rfl ?_
      | refine Br.t ?_
      | refine NthE.mk _ rfl ?_
      | (refine TkE.fL ?_; (conv => whnf); fail_if_success (show forceL _ _))
      | refine Res.mk ?_
      | ((with_reducible refine EqE.idS ?_); (refine EqE.fP ?_; (conv => whnf); fail_if_success (show forceL _ _)))
      | refine Cd.mk (Nat.le_of_ble_eq_true rfl) ?_)
    show _ = D.tup [D.agg [.bool false, sl [], .int .i64 0, .bool false, sl [], .int .i64 0, .bool false, sl [], .int .i64 0, .bool false, sl [], .int .i64 0], _]
    rw [rqD_zero]; rfl
  · rw [if_neg c0] at h; cases h
    have d := rlDiv_is (r := (idivE (rof a) N p).1) (c := 0) p h1 kN (hz.1.mono (by decide)) (hN.mono (by decide)) (by rw [eN]; unfold idivE; rw [if_neg c0])
    have g := rlNeg_is h2 (hz.2.mono (by decide)) rfl
    have hg : Hc 5000 (ineg (rof b)) := hz.2.rof.ineg
    have d2 := rlDiv_is (r := (idivE (ineg (rof b)) N p).1) (c := 0) p (.of (hg.mono (by decide))) kN (hg.mono (by decide)) (hN.mono (by decide)) (by rw [eN, rof_self (ineg_ord (rof_ord b))]; unfold idivE; rw [if_neg c0])
    unfold rof2; dsimp only
    generalize (idivE (rof a) N p).1 = R1 at *
    generalize (idivE (ineg (rof b)) N p).1 = R2 at *
    generalize ineg (rof b) = B at *
    obtain ⟨_, _⟩ := N
    obtain ⟨_, _⟩ := R1
    obtain ⟨_, _⟩ := R2
    obtain ⟨_, _⟩ := B
    refine sim_mk tab_ok Tryz.func198 rfl (by kernel_rfl) rfl ⟨Nat.le_of_ble_eq_true rfl, Nat.le_of_ble_eq_true rfl⟩ ?_
    repeat' ((conv => whnf); first
      | with_reducible refine CallX.data ?_
      | refine CallE.mk _ _ (s) ?_
      | refine CallE.mk _ _ (d) ?_
      | refine CallE.mk _ _ (g) ?_
      | refine CallE.mk _ _ (d2) ?_
      | refine RegE.early (Cd.mk (show regOk _ _ _ _ = true by kernel_rfl) ?_)
      | refine Cd.mk rfl ?_
      | refine Br.f ?_
      | refine NthE.mk _ rfl ?_
      | (refine TkE.fL ?_; (conv => whnf); fail_if_success (show forceL _ _))
      | refine Res.mk ?_
      | ((with_reducible refine EqE.idS ?_); (refine EqE.fP ?_; (conv => whnf); fail_if_success (show forceL _ _)))
      | refine Cd.mk (Nat.le_of_ble_eq_true rfl) ?_)
    rfl
theorem rinvE_c (z : Rq) (p : Int) : (rinvE z p).2 = if ihas (rnorm z) 0 then 11 else 0 := by unfold rinvE; split <;> rfl
theorem rtDiv_is {x y : D} {z w r : Rq} {c : Int} (p : Int) (hx : RcR x z.1 z.2) (hy : RcR y w.1 w.2) (hz : Hr 5000 z) (hw : Hr 5000 w) (h : rdivE (rof2 z) (rof2 w) p = (r, c)) : Sim Tryz.prog G0 false 161 [x, y, .int .i64 p] (.tup [rqD r, .int .i64 c]) := by
  obtain ⟨⟨I, i⟩, hI⟩ : ∃ I, rinvE (rof2 w) p = I := ⟨_, rfl⟩
  have s := rtInv_is p hy hw hI
  have hIt : Hr 31008 I := by
    have k := hw.rof2.rinvE (p := p) (K := 4000) (by omega)
    rw [hI] at k; exact k.mono (by decide)
  have hc := rinvE_c (rof2 w) p
  unfold rdivE at h
  rw [hI] at h hc
  dsimp only at h hc
  by_cases c0 : ihas (rnorm (rof2 w)) 0
  · rw [if_pos c0] at h hc; cases h
    subst hc
    obtain ⟨⟨_, _⟩, ⟨_, _⟩⟩ := I
    obtain ⟨a, b⟩ := z
    obtain ⟨a', b'⟩ := w
    obtain ⟨_, _⟩ := hx
    obtain ⟨_, _⟩ := hy
    refine sim_mk tab_ok Tryz.func161 rfl (by kernel_rfl) rfl ⟨Nat.le_of_ble_eq_true rfl, Nat.le_of_ble_eq_true rfl⟩ ?_
    repeat' ((conv => whnf); first
      | with_reducible refine CallX.data ?_
      | refine CallE.mk _ _ (s) ?_
      | refine RegE.early (Cd.mk (show regOk _ _ _ _ = true by kernel_rfl) ?_)
      | refine Cd.mk rfl ?_
      | refine Br.t ?_
      | refine NthE.mk _ rfl ?_
      | (refine TkE.fL ?_; (conv => whnf); fail_if_success (show forceL _ _))
      | refine Res.mk ?_
      | ((with_reducible refine EqE.idS ?_); (refine EqE.fP ?_; (conv => whnf); fail_if_success (show forceL _ _)))
      | refine Cd.mk (Nat.le_of_ble_eq_true rfl) ?_)
    show _ = D.tup [D.agg [.bool false, sl [], .int .i64 0, .bool false, sl [], .int .i64 0, .bool false, sl [], .int .i64 0, .bool false, sl [], .int .i64 0], _]
    rw [rqD_zero]; rfl
  · rw [if_neg c0] at h hc; cases h
    subst hc
    have m := rtMul_is hx (RqR.of (hIt.mono (by decide))) (hz.mono (by decide)) (hIt.mono (by decide)) rfl
    rw [rmul_rof_l]
    have hM : Hr 36009 (rmul z I) := hz.rmul hIt (by decide)
    have oM := rmul_ord z I
    generalize rmul z I = M at *
    have d := rtRound_is p (RqR.of (hM.mono (by decide))) (hM.mono (by decide)) rfl
    rw [rof2_self oM] at d
    obtain ⟨⟨_, _⟩, ⟨_, _⟩⟩ := I
    obtain ⟨⟨_, _⟩, ⟨_, _⟩⟩ := M
    obtain ⟨a, b⟩ := z
    obtain ⟨a', b'⟩ := w
    obtain ⟨_, _⟩ := hx
    obtain ⟨_, _⟩ := hy
    refine sim_mk tab_ok Tryz.func161 rfl (by kernel_rfl) rfl ⟨Nat.le_of_ble_eq_true rfl, Nat.le_of_ble_eq_true rfl⟩ ?_
    repeat' ((conv => whnf); first
      | with_reducible refine CallX.data ?_
      | refine CallE.mk _ _ (s) ?_
      | refine CallE.mk _ _ (m) ?_
      | refine CallE.mk _ _ (d) ?_
      | refine RegE.early (Cd.mk (show regOk _ _ _ _ = true by kernel_rfl) ?_)
      | refine Cd.mk rfl ?_
      | refine Br.f ?_
      | refine NthE.mk _ rfl ?_
      | (refine TkE.fL ?_; (conv => whnf); fail_if_success (show forceL _ _))
      | refine Res.mk ?_
      | ((with_reducible refine EqE.idS ?_); (refine EqE.fP ?_; (conv => whnf); fail_if_success (show forceL _ _)))
      | refine Cd.mk (Nat.le_of_ble_eq_true rfl) ?_)
    rfl
end Go.Ev.Ar

namespace Go.Ev.Ar
open Go Go.Ev Go.Proofs

/- WHAT LIES IN A RECTANGLE, AND IN WHAT IS RECKONED OF IT -/
def rhas (z : Rq) (c : Cq) : Prop := ihas z.1 c.1 ∧ ihas z.2 c.2
def rin (z w : Rq) : Prop := iin z.1 w.1 ∧ iin z.2 w.2
def cmulP (a b : Cq) : Cq := (a.1 * b.1 - a.2 * b.2, a.1 * b.2 + a.2 * b.1)
theorem iin_sub2 {a b c d : Cq} (h : iin a c) (k : iin b d) : iin (isub a b) (isub c d) := by unfold iin isub iadd ineg at *; dsimp only; grind
theorem iin_add2 {a b c d : Cq} (h : iin a c) (k : iin b d) : iin (iadd a b) (iadd c d) := by unfold iin iadd at *; dsimp only; grind
theorem rin_refl (z : Rq) : rin z z := ⟨iin_refl _, iin_refl _⟩
theorem rin_has {z w : Rq} {c : Cq} (h : rin z w) (k : rhas z c) : rhas w c := ⟨iin_has h.1 k.1, iin_has h.2 k.2⟩
theorem rhas_ord {z : Rq} {c : Cq} (h : rhas z c) : Ord2 z := ⟨ihas_ord h.1, ihas_ord h.2⟩
theorem rhas_add {z w : Rq} {a b : Cq} (h : rhas z a) (k : rhas w b) : rhas (radd z w) (a.1 + b.1, a.2 + b.2) := ⟨ihas_add h.1 k.1, ihas_add h.2 k.2⟩
theorem rhas_sub {z w : Rq} {a b : Cq} (h : rhas z a) (k : rhas w b) : rhas (rsub z w) (a.1 - b.1, a.2 - b.2) := ⟨ihas_sub h.1 k.1, ihas_sub h.2 k.2⟩
theorem rhas_neg {z : Rq} {a : Cq} (h : rhas z a) : rhas (rneg z) (-a.1, -a.2) := ⟨ihas_neg h.1, ihas_neg h.2⟩
theorem rhas_mul {z w : Rq} {a b : Cq} (h : rhas z a) (k : rhas w b) : rhas (rmul z w) (cmulP a b) := ⟨ihas_sub (ihas_mul h.1 k.1) (ihas_mul h.2 k.2), ihas_add (ihas_mul h.1 k.2) (ihas_mul h.2 k.1)⟩
theorem dsq (a : Dyadic) : a ^ clampP 2 = a * a := by
  show a ^ 2 = a * a
  rw [Dyadic.pow_succ, Dyadic.pow_succ, Dyadic.pow_zero]; grind
theorem ihas_sq {z : Cq} {a : Dyadic} (h : ihas z a) : ihas (ipow z 2) (a * a) := dsq a ▸ ihas_pow 2 h
theorem rhas_sq {z : Rq} {a : Cq} (h : rhas z a) : rhas (rsq z) (cmulP a a) := by
  refine ⟨ihas_sub (ihas_sq h.1) (ihas_sq h.2), ?_⟩
  have e : (cmulP a a).2 = a.1 * a.2 + a.1 * a.2 := by unfold cmulP; dsimp only; grind
  rw [e]
  exact ihas_add (ihas_mul h.1 h.2) (ihas_mul h.1 h.2)
def normP (a : Cq) : Dyadic := a.1 * a.1 + a.2 * a.2
theorem rhas_norm {z : Rq} {a : Cq} (h : rhas z a) : ihas (rnorm z) (normP a) := ihas_add (ihas_sq h.1) (ihas_sq h.2)
def cpw (a : Cq) : Nat → Cq
  | 0 => (1, 0)
  | n + 1 => cmulP (cpw a n) a
theorem rhas_pw {z : Rq} {a : Cq} (h : rhas z a) : ∀ n, rhas (rpw z n) (cpw a n)
  | 0 => by unfold rhas ihas rpw cpw; dsimp only; grind
  | n + 1 => rhas_mul (rhas_pw h n) h
theorem rin_add {w x : Rq} (z : Rq) (h : rin w x) : rin (radd w z) (radd x z) := ⟨iin_add _ h.1, iin_add _ h.2⟩
theorem rin_mul {w x y z : Rq} (hw : Ord2 w) (hy : Ord2 y) (h : rin w x) (k : rin y z) : rin (rmul w y) (rmul x z) :=
  ⟨iin_sub2 (iin_mul hw.1 hy.1 h.1 k.1) (iin_mul hw.2 hy.2 h.2 k.2), iin_add2 (iin_mul hw.1 hy.2 h.1 k.2) (iin_mul hw.2 hy.1 h.2 k.1)⟩
theorem rin_pw {w x : Rq} (hw : Ord2 w) (h : rin w x) : ∀ n, rin (rpw w n) (rpw x n)
  | 0 => rin_refl _
  | n + 1 => rin_mul (rpw_ord _ _) hw (rin_pw hw h n) h
theorem rin_sq {w x : Rq} (hw : Ord2 w) (h : rin w x) : rin (rsq w) (rsq x) :=
  ⟨iin_sub2 (iin_pow 2 hw.1 h.1) (iin_pow 2 hw.2 h.2), iin_add2 (iin_mul hw.1 hw.2 h.1 h.2) (iin_mul hw.1 hw.2 h.1 h.2)⟩
theorem rin_hull {w x : Rq} (z : Rq) (h : rin w x) : rin (rhull w z) (rhull x z) := ⟨iin_hull _ h.1, iin_hull _ h.2⟩
theorem mid_has {z : Cq} (h : Ord z) : ihas z ((z.1 + z.2) * dof 1 (-1)) := by
  have e : (z.1 + z.2) * dof 1 (-1) + (z.1 + z.2) * dof 1 (-1) = z.1 + z.2 := by
    rw [← Dyadic.mul_add, show dof 1 (-1) + dof 1 (-1) = 1 by decide, Dyadic.mul_one]
  unfold Ord at h
  unfold ihas
  generalize (z.1 + z.2) * dof 1 (-1) = m at *
  grind
theorem rmid_has {z : Rq} (h : Ord2 z) : rhas z (rmid z) := ⟨mid_has h.1, mid_has h.2⟩
theorem rround_in (z : Rq) (p : Int) : rin z (rround z p) := ⟨iround_in _ p, iround_in _ p⟩
/- SCALED -/
def scl (n : Dyadic) (z : Cq) : Cq := (z.1 * n, z.2 * n)
theorem mn_mul {n : Dyadic} (h : 0 ≤ n) (a b : Dyadic) : mn (a * n) (b * n) = mn a b * n ∧ mx (a * n) (b * n) = mx a b * n := by
  have k1 : a ≤ b → a * n ≤ b * n := fun g => by rw [Dyadic.mul_comm a, Dyadic.mul_comm b]; exact dmul_le h g
  have k2 : b ≤ a → b * n ≤ a * n := fun g => by rw [Dyadic.mul_comm a, Dyadic.mul_comm b]; exact dmul_le h g
  unfold mn mx
  rcases Classical.em (a ≤ b) with c | c
  · have := k1 c
    constructor
    · rw [if_pos c, if_pos this]
    · by_cases d : b ≤ a
      · have e : a = b := by grind
        subst e; rw [if_pos d, if_pos (k2 d)]
      · rw [if_neg d]
        by_cases g : b * n ≤ a * n
        · rw [if_pos g]; grind
        · rw [if_neg g]
  · have c2 : b ≤ a := by grind
    have := k2 c2
    constructor
    · rw [if_neg c]
      by_cases g : a * n ≤ b * n
      · rw [if_pos g]; grind
      · rw [if_neg g]
    · rw [if_pos c2, if_pos this]
theorem imul_scl {n : Dyadic} (h : 0 ≤ n) (z w : Cq) : imul z (scl n w) = scl n (imul z w) := by
  unfold imul scl; dsimp only
  rw [← Dyadic.mul_assoc, ← Dyadic.mul_assoc, ← Dyadic.mul_assoc, ← Dyadic.mul_assoc, (mn_mul h _ _).1, (mn_mul h _ _).1, (mn_mul h _ _).1, (mn_mul h _ _).2, (mn_mul h _ _).2, (mn_mul h _ _).2]
theorem imul_scl_l {n : Dyadic} (h : 0 ≤ n) (z w : Cq) : imul (scl n z) w = scl n (imul z w) := by rw [imul_comm, imul_scl h, imul_comm]
theorem isub_scl (n : Dyadic) (z w : Cq) : isub (scl n z) (scl n w) = scl n (isub z w) := by unfold isub iadd ineg scl; dsimp only; congr 1 <;> grind
theorem iadd_scl (n : Dyadic) (z w : Cq) : iadd (scl n z) (scl n w) = scl n (iadd z w) := by unfold iadd scl; dsimp only; congr 1 <;> grind
def scl2 (n : Dyadic) (z : Rq) : Rq := (scl n z.1, scl n z.2)
theorem rmul_scl {n : Dyadic} (h : 0 ≤ n) (z w : Rq) : rmul z (scl2 n w) = scl2 n (rmul z w) := by
  unfold rmul scl2; dsimp only
  rw [imul_scl h, imul_scl h, imul_scl h, imul_scl h, isub_scl, iadd_scl]
theorem rmul_scl_l {n : Dyadic} (h : 0 ≤ n) (z w : Rq) : rmul (scl2 n z) w = scl2 n (rmul z w) := by
  unfold rmul scl2; dsimp only
  rw [imul_scl_l h, imul_scl_l h, imul_scl_l h, imul_scl_l h, isub_scl, iadd_scl]
theorem scl_in {n : Dyadic} (h : 0 ≤ n) {z w : Cq} (k : iin z w) : iin (scl n z) (scl n w) := by
  unfold iin scl at *; dsimp only
  rw [Dyadic.mul_comm w.1, Dyadic.mul_comm z.1, Dyadic.mul_comm z.2, Dyadic.mul_comm w.2]
  exact ⟨dmul_le h k.1, dmul_le h k.2⟩
theorem scl_has {n : Dyadic} (h : 0 < n) {z : Cq} {a : Dyadic} : ihas (scl n z) (a * n) ↔ ihas z a := by
  unfold ihas scl; dsimp only
  rw [Dyadic.mul_comm z.1, Dyadic.mul_comm z.2, Dyadic.mul_comm a, dmul_le_iff h, dmul_le_iff h]
theorem dsq_nn (a : Dyadic) : 0 ≤ a * a := by
  rcases Classical.em (0 ≤ a) with h | h
  · have := dmul_le h h; rwa [Dyadic.mul_zero] at this
  · have := dmul_le (show 0 ≤ -a by grind) (show 0 ≤ -a by grind)
    grind
theorem rnorm_nn {z : Rq} (h : Ord2 z) : 0 ≤ (rnorm z).1 := by
  have h1 := ipow_even_ge (n := 2) h.1 (by decide)
  have h2 := ipow_even_ge (n := 2) h.2 (by decide)
  unfold rnorm iadd; dsimp only; grind
theorem norm_pos {z : Rq} {b : Cq} (hb : rhas z b) (h0 : ¬ ihas (rnorm z) 0) : 0 < normP b := by
  have h1 := rnorm_nn (rhas_ord hb)
  have h2 := rhas_norm hb
  have h3 := rnorm_ord (rhas_ord hb)
  unfold ihas at h0 h2
  unfold Ord at h3
  grind
/-- What inverse points are, times what they are divided by. -/
theorem rinv_has {z : Rq} {b : Cq} (p : Int) (hb : rhas z b) (h0 : ¬ ihas (rnorm z) 0) : rhas (scl2 (normP b) (rinvE z p).1) (b.1, -b.2) := by
  have hn := rhas_norm hb
  have hp := norm_pos hb h0
  have hv := iinv_has p hn h0
  have ho := iinv_ord p (rnorm_ord (rhas_ord hb)) h0
  unfold rinvE
  rw [if_neg h0]
  unfold idivE
  rw [if_neg h0, if_neg h0]
  refine ⟨?_, ?_⟩
  · exact (idiv_has (w := rnorm z) hb.1 ho (iround_in _ p) hv).1 hp
  · exact (idiv_has (w := rnorm z) (ihas_neg hb.2) ho (iround_in _ p) hv).1 hp
/-- a by b, times what b times its mirror is. -/
theorem rdiv_has {z w : Rq} {a b : Cq} (p : Int) (ha : rhas z a) (hb : rhas w b) (h0 : ¬ ihas (rnorm w) 0) : rhas (scl2 (normP b) (rdivE z w p).1) (cmulP a (b.1, -b.2)) := by
  have hp := norm_pos hb h0
  have hm := rhas_mul ha (rinv_has p hb h0)
  rw [rmul_scl (by grind)] at hm
  unfold rdivE
  rw [if_neg h0]
  have k := rround_in (rmul z (rinvE w p).1) p
  exact ⟨iin_has (scl_in (by grind) k.1) hm.1, iin_has (scl_in (by grind) k.2) hm.2⟩
/- POINTS -/
theorem mn_self' (p : Dyadic) : mn p p = p := by unfold mn; split <;> rfl
theorem mx_self' (p : Dyadic) : mx p p = p := by unfold mx; split <;> rfl
theorem imul_pt' (a b : Dyadic) : imul (a, a) (b, b) = (a * b, a * b) := by unfold imul; dsimp only; rw [mn_self', mn_self', mx_self', mx_self']
theorem ipow_pt' (a : Dyadic) : ipow (a, a) 2 = (a * a, a * a) := by
  have h : ihas (ipow (a, a) 2) (a * a) := ihas_sq (by unfold ihas; dsimp only; grind)
  have e : iabs (a, a) = (dabs a, dabs a) := by
    unfold iabs; dsimp only
    split
    · rename_i g
      have : a = 0 := by grind
      subst this
      rw [mx_self']; rfl
    · rw [mn_self', mx_self']
  unfold ipow
  rw [if_pos (by decide), e]; dsimp only
  rw [dpow_even a (by decide), dsq]
def ptR (c : Cq) : Rq := ((c.1, c.1), (c.2, c.2))
theorem ptR_ord (c : Cq) : Ord2 (ptR c) := by unfold Ord2 ptR Ord; dsimp only; exact ⟨by grind, by grind⟩
theorem ptR_has (c : Cq) : rhas (ptR c) c := by unfold rhas ptR ihas; dsimp only; grind
theorem rmul_pt (a b : Cq) : rmul (ptR a) (ptR b) = ptR (cmulP a b) := by
  unfold rmul ptR; dsimp only
  rw [imul_pt', imul_pt', imul_pt', imul_pt']; rfl
theorem radd_pt (a b : Cq) : radd (ptR a) (ptR b) = ptR (a.1 + b.1, a.2 + b.2) := rfl
theorem rnorm_pt (a : Cq) : rnorm (ptR a) = (normP a, normP a) := by
  unfold rnorm ptR; dsimp only
  rw [ipow_pt', ipow_pt']; rfl
theorem norm_zero {a : Cq} : normP a = 0 ↔ a = (0, 0) := by
  constructor
  · intro h
    have h1 := dsq_nn a.1
    have h2 := dsq_nn a.2
    unfold normP at h
    have e1 : a.1 * a.1 = 0 := by grind
    have e2 : a.2 * a.2 = 0 := by grind
    have z : ∀ d : Dyadic, d * d = 0 → d = 0 := fun d e => by
      have h3 : dman d * dman d = 0 := by rw [← dman_mul, e]; rfl
      rcases Int.mul_eq_zero.1 h3 with g | g <;> exact dman_eq_zero.1 g
    exact Prod.ext (z _ e1) (z _ e2)
  · intro h; rw [h]; decide
theorem norm_has {a : Cq} : ihas (rnorm (ptR a)) 0 ↔ a = (0, 0) := by
  rw [rnorm_pt, ← norm_zero]
  unfold ihas; dsimp only; grind
/-- What is divided by a point and multiplied by it again has what it was. -/
theorem div_back {a b : Cq} (p : Int) (hb : b ≠ (0, 0)) : rhas (rmul (rdivE (ptR a) (ptR b) p).1 (ptR b)) a := by
  have h0 : ¬ ihas (rnorm (ptR b)) 0 := fun h => hb (norm_has.1 h)
  have hp := norm_pos (ptR_has b) h0
  have h1 := rdiv_has p (ptR_has a) (ptR_has b) h0
  have h2 := rhas_mul h1 (ptR_has b)
  rw [rmul_scl_l (by grind)] at h2
  have e : cmulP (cmulP a (b.1, -b.2)) b = (a.1 * normP b, a.2 * normP b) := by
    unfold cmulP normP; dsimp only
    congr 1 <;> grind
  rw [e] at h2
  exact ⟨(scl_has hp).1 h2.1, (scl_has hp).1 h2.2⟩
end Go.Ev.Ar
