/- Contracts of the given functions, on data. Conditions stand in each theorem. -/
import Derived.Test.YtagjickjfjgfpaaGreatDoorHEvQw
set_option linter.unusedSimpArgs false
set_option linter.unusedVariables false
namespace Go.Ev
open Go
def vf (P : Program) (G : bb) (T : Tab) (C : Cfg) (ops : Array Oper) : Nat → List Oper → St → (St → Prop) → Prop
 | _, [], σ, Q => Q σ
 | i, o :: rest, σ, Q => pg ops σ o (fun σ => bif C.cs.contains i then a12 P G T C σ o.dst o.op (fun r σ' => σ'.kt o.dst r fun σ' => vfK C σ' o.dst o.op (vf P G T C ops (i + 1) rest σ' Q)) else ni P G T σ o fun σ' => vfK C σ' o.dst o.op (vf P G T C ops (i + 1) rest σ' Q))
   (fun σ => σ.kt o.dst (.d (.tup [])) fun σ => vf P G T C ops (i + 1) rest σ Q)
namespace Dw
section
variable {T : Tab} {P : Program} {G : bb} {C : Cfg} {ops : Array Oper} {σs : Nat → St}
variable {w0 : World} {M : Own} {S0 : Imm} {a : Act} {w : World} {β : Own} {S : Imm} {L : Nat → Prop} {σE : St} {j : Nat} {o : Oper}
theorem aq5 {σ τ : St} (h : NR C σ) (hd : C.V = [] ∨ ∀ t, t ∉ C.ps → τ.get t = σ.get t ∨ (τ.get t).nr C.V = true) (hr : C.V = [] ∨ (∀ b, b ∉ C.W → ct τ b = ct σ b) ∨ ka C τ.heap = true) : NR C τ := by
 rcases h with h | ⟨h1, h2⟩
 ·exact .inl h
 rcases hd with hd | hd
 ·exact .inl hd
 rcases hr with hr | hr | hr
 ·exact .inl hr
 ·refine .inr ⟨fun t ht => ?_, fun b f l hb hl => ?_⟩
  ·rcases hd t ht with e | e
   ·rw [e]; exact h1 t ht
   ·exact e
  ·have := hr b hb
   unfold ct at this
   rw [hl] at this
   cases e : lk σ.heap b with
   | none => rw [e] at this; cases this
   | some y =>
    obtain ⟨f', l'⟩ := y
    rw [e] at this
    simp only [Option.map_some, Option.some.injEq] at this
    rw [this]
    exact h2 b f' l' hb e
 ·simp only [ka, Bool.or_eq_true, List.isEmpty_iff] at hr
  rcases hr with hr | hr
  ·exact .inl hr
  refine .inr ⟨fun t ht => ?_, fun b f l hb hl => ?_⟩
  ·rcases hd t ht with e | e
   ·rw [e]; exact h1 t ht
   ·exact e
  ·have := List.all_eq_true.1 hr _ (lh hl)
   simp only [Bool.or_eq_true] at this
   rcases this with h | h
   ·exact absurd (by simpa using h) hb
   ·exact h
theorem a2c {o : Oper} (h : kindOf o.op ≠ 2) : ej o = false := by
 cases e : ej o with
 | false => rfl
 | true => exact absurd (c9 e).1 h
theorem ahh (hT : b6 P T) (hst : ∀ i o, ops[i]? = some o → oa P G T C ops i o (σs i) (σs (i + 1))) (hS : Stat T C ops) (hA : alp G C ops σs) (hN : ∀ m, m ≤ ops.size → NR C (σs m))
  (hcl : ∀ k o, L k → ops[k]? = some o → ∀ p ∈ bk o, L p) (hj : ops[j]? = some o) (hnj : ¬ L j) (hr : ∀ p ∈ bk o, L p)
  (hdst : ∀ d, o.dst = some d → d < σE.n) (hrel : Rel G w0 M S0 σE a w β S) (hM : cw G C ops σs L σE) {K : Act → World → Prop} {Q : Exit → Act → World → Prop}
  (hK : ∀ a w σ' β S, Rel G w0 M S0 σ' a w β S → cw G C ops σs (fun i => L i ∨ i = j) σ' → K a w) : wpOp P ops Q j K a w := by
 have ord1 := aot hcl hS hj hr
 have ord2 := avk hcl hS hj hnj
 have hsame := as5 hS hj hnj ord1 ord2 hM
 have hjs := lt_size hj
 have nJ := hN (j + 1) hjs
 have mk : ∀ {σE' : St}, σE'.n = σE.n → (∀ t, o7 C ops j t → σE'.get t = (σs (j + 1)).get t) → (∀ t, ¬ o7 C ops j t → σE'.get t = σE.get t) →
   (∀ b, dz G C ops σs j b → Ev.ct σE' b = Ev.ct (σs (j + 1)) b) → (∀ b, ¬ dz G C ops σs j b → Ev.ct σE' b = Ev.ct σE b) →
   (∀ b l', lk σE'.heap b = some (true, l') → (∃ l, lk σE.heap b = some (true, l)) ∨ (Fz G C j o (σs j) b ∧ ∃ l, lk (σs (j + 1)).heap b = some (true, l))) →
   cw G C ops σs (fun i => L i ∨ i = j) σE' := fun h1 h2 h3 h4 h5 h6 =>
  cw.stepG hst hS hA hj hnj ord2 hM h1 h2 h3 h4 h5 h6 nJ
 have tD : ∀ t, isO C j = false → (o7 C ops j t ↔ o.dst = some t) := fun t hc => by
  constructor
  ·rintro ⟨x, hx, h⟩
   rw [hj] at hx; cases hx
   rcases h with h | h
   ·exact h
   ·rw [hc] at h; cases h.1
  ·exact fun h => ⟨o, hj, .inl h⟩
 have hs := hst j o hj
 cases hs with
 | skip hc hg n get heap =>
  have hw := adn hrel (a2b hS hj hnj ord1 ord2 hM hg)
  have hrel' := y9 hrel o.dst hdst
  simp only [wpOp, hj, hw, Bool.false_eq_true, if_false]
  refine hK _ _ _ _ _ hrel' (mk (mq _ _ _) (fun t ht => ?_) (fun t ht => b9 fun e => ht ⟨o, hj, .inl e⟩) (fun b hb => ?_) (fun b _ => by simp only [ct, aq]) (fun b l' hl => .inl ⟨l', by rw [aq] at hl; exact hl⟩))
  ·rw [get]
   have hg2 := get_at hS hj hnj ord1 ord2 hM (t := t) (.inr ht)
   cases e : o.dst with
   | none => exact hg2
   | some d =>
    rw [bc, bc]
    split
    ·rfl
    ·exact hg2
  ·have := zk hS hA hj hnj ord1 ord2 hM hb
   unfold ct at this ⊢
   rw [aq, heap, this]
 | own hc hg r nP nW n get heap fl live key t =>
  have tW : ∀ b, b ∈ C.W → dz G C ops σs j b := fun b hb => ⟨o, hj, .inl ⟨hc, hb⟩⟩
  have k3 := hS.k3 j o hc hj
  refine v8 hj (aaq hrel (azl hS hj hnj ord1 ord2 hM hg)) (t σE hsame hdst (fun t ht => get_at hS hj hnj ord1 ord2 hM (.inr ⟨o, hj, .inr ⟨hc, ht⟩⟩)) (fun b hb => ?_)
   (fun x hx b hr hb fr l hl => ag2 hst hS hA hj hnj ord1 ord2 hcl hrel hM (ac5 k3.1) (aub k3.1) (vr k3.1) x hx b hr (fun _ => hb) fr l hl) hM.nr hrel Q K fun σ'' a' w' β' S' h1 h2 h3 h4 => ?_)
  ·have hcb := zk hS hA hj hnj ord1 ord2 hM (tW b hb)
   unfold ct at hcb
   cases h : lk (σs j).heap b with
   | none => rw [h] at hcb; simpa using hcb
   | some y =>
    obtain ⟨f0, l⟩ := y
    have hf0 : f0 = false := by
     cases f0 with
     | false => rfl
     | true => exact absurd h (live b l hb)
    subst hf0
    rw [h] at hcb
    simp only [Option.map_some, Option.map_eq_some_iff] at hcb
    obtain ⟨y, hy, e⟩ := hcb
    obtain ⟨fr, l3⟩ := y
    cases fr with
    | false => rw [hy, ← e]
    | true =>
     exfalso
     refine hM.fl j (Nat.le_of_lt hjs) b (fun i x hx hz hL => ?_) l h l3 hy
     rcases Nat.lt_trichotomy i j with hij | hij | hij
     ·exact hij
     ·subst hij; exact absurd hL hnj
     ·have hf : C.fs.contains i = false := by
       cases e : C.fs.contains i with
       | false => rfl
       | true => exact (hA i x b e hx hb hz.2.2).elim
      exact absurd hL (ord2 i x hij hx (qf hc (ac3 hz.2.1) (by rw [hz.2.1]; decide) hf).2)
  ·refine hK _ _ _ _ _ h1 (mk h2 (fun t ht => ?_) (fun t ht => ?_) (fun b hb => ?_) (fun b hb => ?_) (fun b l' hl => ?_))
   ·rw [h3, get]
    have hg2 := get_at hS hj hnj ord1 ord2 hM (t := t) (.inr ht)
    unfold pG
    split
    ·rfl
    ·split
     ·rfl
     ·exact hg2
   ·rw [h3]; unfold pG
    rw [if_neg (fun e => ht ⟨o, hj, .inl e⟩), if_neg (fun e => ht ⟨o, hj, .inr ⟨hc, by simpa using e⟩⟩)]
   ·have hcb := zk hS hA hj hnj ord1 ord2 hM hb
    unfold ct at hcb ⊢
    rw [h4, heap]; unfold pH
    split
    ·rfl
    ·exact hcb
   ·unfold ct
    rw [h4]; unfold pH
    rw [if_neg (fun e => hb (tW b (by simpa using e)))]
   ·rw [h4] at hl; unfold pH at hl
    split at hl
    ·exact absurd hl (fl b l')
    ·exact .inl ⟨l', hl⟩
 | old hc hw hs =>
  obtain ⟨τ, hs, e1, e2, hh⟩ := hs
  have hfin : ∀ {K' : St → Prop}, ni P G T σE o K' → a8 ops o (σs j) → (∀ σ', K' σ' → cw G C ops σs (fun i => L i ∨ i = j) σ') → wpOp P ops Q j K a w := by
   intro K' hev hg hm
   refine v8 hj (aaq hrel (azl hS hj hnj ord1 ord2 hM hg)) (Oper.wp_mono ?_ (ve hT hrel hdst hev Q))
   rintro a' w' ⟨σ2, β2, S2, hK2, h2, _⟩
   exact hK a' w' σ2 β2 S2 h2 (hm σ2 hK2)
  cases hs with
  | skip hg h =>
   have hw := adn hrel (a2b hS hj hnj ord1 ord2 hM hg)
   have hrel' := y9 hrel o.dst hdst
   simp only [wpOp, hj, hw, Bool.false_eq_true, if_false]
   refine hK _ _ _ _ _ hrel' (mk (mq _ _ _) (fun t ht => ?_) (fun t ht => b9 fun e => ht ((tD t hc).2 e)) (fun b hb => ?_) (fun b _ => by simp only [ct, aq]) (fun b l' hl => .inl ⟨l', by rw [aq] at hl; exact hl⟩))
   ·have ht := (tD t hc).1 ht
    rw [e2.get, h, ht, bc, if_pos rfl, bc, if_pos rfl]
   ·have := zk hS hA hj hnj ord1 ord2 hM hb
    unfold ct at this ⊢
    rw [aq, hh, h, aq, this]
  | lt hg hl r h t =>
   have hk := gm hl
   refine hfin (K' := fun σ' => σ' = σE.put o.dst r) (t σE _ hsame rfl) hg ?_
   rintro σ' rfl
   refine mk (mq _ _ _) (fun t ht => ?_) (fun t ht => b9 fun e => ht ((tD t hc).2 e)) (fun b hb => ?_) (fun b _ => by simp only [ct, aq]) (fun b l' hl => .inl ⟨l', by rw [aq] at hl; exact hl⟩)
   ·have ht := (tD t hc).1 ht
    rw [e2.get, h, ht, bc, if_pos rfl, bc, if_pos rfl]
   ·have := zk hS hA hj hnj ord1 ord2 hM hb
    unfold ct at this ⊢
    rw [aq, hh, h, aq, this]
  | st hg hs b l row hb h t hstb =>
   have tb : dz G C ops σs j b := ⟨o, hj, .inr (.inl ⟨hc, hs, hstb⟩)⟩
   have hcb := zk hS hA hj hnj ord1 ord2 hM tb
   have hfr : lk σE.heap b = some (false, l) := by
    have h1 := hcb
    unfold ct at h1
    rw [hb] at h1
    simp only [Option.map_some, Option.map_eq_some_iff] at h1
    obtain ⟨y, hy, e⟩ := h1
    obtain ⟨fr, l3⟩ := y
    cases fr with
    | false => rw [hy, ← e]
    | true =>
     exfalso
     refine hM.fl j (Nat.le_of_lt hjs) b (fun i x hx hlx hL => ?_) l hb l3 hy
     rcases Nat.lt_trichotomy i j with hij | hij | hij
     ·exact hij
     ·subst hij; exact absurd hL hnj
     ·exact absurd hL (ord2 i x hij hx (uq hs (ac3 hlx.2.1)).2)
   refine hfin (K' := fun σ' => σ' = σE.wr b row) (t σE _ hsame hfr rfl) hg ?_
   rintro σ' rfl
   have hd := (c9 hs).2.1
   refine mk rfl (fun t ht => by have ht := (tD t hc).1 ht; rw [hd] at ht; cases ht) (fun _ _ => rfl) (fun b' hb' => ?_) (fun b' hb' => ?_) (fun b' l' hl => ?_)
   ·have h1 := zk hS hA hj hnj ord1 ord2 hM hb'
    unfold ct at h1 ⊢
    rw [hh, h, wo, wo]
    split
    ·rename_i e; subst e
     rw [hfr, hb]
    ·exact h1
   ·unfold ct
    rw [wo, if_neg]
    rintro rfl
    exact hb' tb
   ·rw [wo] at hl
    split at hl
    ·rename_i e; subst e
     rw [hfr] at hl; cases hl
    ·exact .inl ⟨l', hl⟩
  | val hg hk hlt r h t =>
   refine hfin (K' := fun σ' => σ' = σE.put o.dst r) (t σE _ hsame (fun x hx b hr fr l hl => ag2 hst hS hA hj hnj ord1 ord2 hcl hrel hM (by rw [hk]; decide) (a2c (by rw [hk]; decide)) hlt x hx b hr (fun h => by rw [hc] at h; cases h) fr l hl) rfl) hg ?_
   rintro σ' rfl
   refine mk (mq _ _ _) (fun t ht => ?_) (fun t ht => b9 fun e => ht ((tD t hc).2 e)) (fun b hb => ?_) (fun b _ => by simp only [ct, aq]) (fun b l' hl => .inl ⟨l', by rw [aq] at hl; exact hl⟩)
   ·have ht := (tD t hc).1 ht
    rw [e2.get, h, ht, bc, if_pos rfl, bc, if_pos rfl]
   ·have := zk hS hA hj hnj ord1 ord2 hM hb
    unfold ct at this ⊢
    rw [aq, hh, h, aq, this]
  | new hg hk d hd r l hf h t =>
   have td : dz G C ops σs j d := ⟨o, hj, .inr (.inr ⟨hc, hk, hd, hg⟩)⟩
   refine hfin (K' := fun σ' => σ' = (σE.new d l).put (some d) r) (t σE _ hsame (a06 hS hj hnj ord1 ord2 hM hk hd hf) rfl) hg ?_
   rintro σ' rfl
   refine mk (mq _ _ _) (fun t ht => ?_) (fun t ht => ?_) (fun b hb => ?_) (fun b hb => ?_) (fun b l' hl => .inl ?_)
   ·have ht := (tD t hc).1 ht
    rw [hd] at ht; cases ht
    rw [e2.get, h, bc, if_pos rfl, bc, if_pos rfl]
   ·have ht : o.dst ≠ some t := fun e => ht ((tD t hc).2 e)
    rw [b9 (by rw [← hd]; exact ht)]; rfl
   ·have hcb := zk hS hA hj hnj ord1 ord2 hM hb
    unfold ct at hcb ⊢
    rw [hh, h]
    simp only [aq, St.new, lk]
    split
    ·rfl
    ·exact hcb
   ·have hbd : ¬ d = b := fun e => hb (e ▸ td)
    show (lk _ _).map _ = (lk _ _).map _
    simp only [aq, St.new, lk]
    rw [if_neg hbd]
   ·simp only [aq, St.new, lk] at hl
    split at hl
    ·cases hl
    ·exact ⟨l', hl⟩
  | call hg hk fresh r bs hb hbr h t =>
   refine hfin (K' := fun σ' => σ' = (if fresh then σE else σE.freeze bs).put o.dst r) (t σE _ hsame (fun x hx b hr fr l hl => ag2 hst hS hA hj hnj ord1 ord2 hcl hrel hM (by rw [hk]; decide) (a2c (by rw [hk]; decide)) (ac3 hk) x hx b hr (fun h => by rw [hc] at h; cases h) fr l hl) rfl) hg ?_
   rintro σ' rfl
   have hctf : ∀ b, ct ((if fresh then σE else σE.freeze bs).put o.dst r) b = ct σE b := fun b => by
    simp only [ct, aq]
    cases fresh
    ·simp only [Bool.false_eq_true, if_false, c8, Option.map_map]; rfl
    ·rfl
   refine mk ?_ (fun t ht => ?_) (fun t ht => ?_) (fun b hb => ?_) (fun b _ => hctf b) (fun b l' hl => ?_)
   ·rw [mq]; cases fresh
    ·exact xl _ _
    ·rfl
   ·have ht := (tD t hc).1 ht
    rw [e2.get, h, ht, bc, if_pos rfl, bc, if_pos rfl]
   ·have ht : o.dst ≠ some t := fun e => ht ((tD t hc).2 e)
    rw [b9 ht]; cases fresh
    ·exact nj _ _ _
    ·rfl
   ·have h1 := zk hS hA hj hnj ord1 ord2 hM hb
    rw [hctf b, h1]
    unfold ct
    rw [hh, h, aq]
    cases fresh
    ·simp only [Bool.false_eq_true, if_false, c8, Option.map_map]; rfl
    ·rfl
   ·rw [aq] at hl
    cases fresh with
    | true => exact .inl ⟨l', hl⟩
    | false =>
     simp only [Bool.false_eq_true, if_false, c8, Option.map_eq_some_iff] at hl
     obtain ⟨y, hy, e⟩ := hl
     obtain ⟨fr, l2⟩ := y
     simp only [Prod.mk.injEq] at e
     obtain ⟨e3, rfl⟩ := e
     cases fr with
     | true => exact .inl ⟨l2, hy⟩
     | false =>
      simp only [Bool.false_or, List.contains_iff_mem] at e3
      refine .inr ⟨⟨hc, hk, hbr b e3⟩, ?_⟩
      rw [hh, h, aq]
      simp only [Bool.false_eq_true, if_false, c8]
      cases hq : lk (σs j).heap b with
      | none => obtain ⟨fr', ds, hds⟩ := hb b e3; rw [hq] at hds; cases hds
      | some y =>
       obtain ⟨fr, l3⟩ := y
       exact ⟨l3, by simp [e3]⟩
  | wr hg hk hss hn mono keys fd t =>
   have := hw hk
   rw [hss] at this; cases this
theorem ajs (hT : b6 P T) (hst : ∀ i o, ops[i]? = some o → oa P G T C ops i o (σs i) (σs (i + 1))) (hS : Stat T C ops) (hA : alp G C ops σs) (hN : ∀ m, m ≤ ops.size → NR C (σs m))
  (hd : ∀ o ∈ ops.toList, ∀ d, o.dst = some d → d < (σs 0).n) {Q : Exit → Act → World → Prop}
  (hQ : ∀ a w σ' β S, Rel G w0 M S0 σ' a w β S → Eqv σ' (σs ops.size) → Q .normal a w) :
  ∀ (fuel : Nat) (listed : Array Bool) (a : Act) (w : World) (σE : St) (β : Own) (S : Imm), listed.size = ops.size → ot ops.size listed = fuel →
   (∀ k o, listed.getD k false = true → ops[k]? = some o → ∀ p ∈ bk o, listed.getD p false = true) →
   Rel G w0 M S0 σE a w β S → cw G C ops σs (fun i => listed.getD i false = true) σE → wpAny P .any ops Q fuel listed a w := by
 have hdone : ∀ (listed : Array Bool) (a : Act) (w : World) (σE : St) (β : Own) (S : Imm), listed.size = ops.size → Rel G w0 M S0 σE a w β S → cw G C ops σs (fun i => listed.getD i false = true) σE →
   Region.ready .any ops listed = [] → Q .normal a w := by
  intro listed a w σE β S hsz hrel hM hnil
  have hall : ∀ i, i < ops.size → listed.getD i false = true := by
   intro i
   induction i using Nat.strongRecOn with
   | _ i ih =>
    intro hi
    cases hl : listed.getD i false with
    | true => rfl
    | false =>
     exfalso
     have : i ∈ Region.ready .any ops listed := qi.2 ⟨hi, by rw [qe (by omega)]; exact hl, fun o ho p hp => by
      have hlt := (hS.sp i o ho).1 p hp
      exact ih p hlt (by omega)⟩
     rw [hnil] at this
     cases this
  refine hQ a w σE β S hrel ⟨hM.n.trans (apr hst (Nat.le_refl _)).symm, fun t => hM.get t _ (Nat.le_refl _) fun i hi _ => ⟨fun _ => hi, fun _ => hall i hi⟩, fun b => hM.ct b _ (Nat.le_refl _) fun i hi _ => ⟨fun _ => hi, fun _ => hall i hi⟩, fun b l hl => ?_⟩
  have h1 := hM.ct b _ (Nat.le_refl _) fun i hi _ => ⟨fun _ => hi, fun _ => hall i hi⟩
  have h2 := hM.fl _ (Nat.le_refl _) b (fun i x hx _ _ => (Array.getElem?_eq_some_iff.1 hx).1) l hl
  unfold ct at h1
  rw [hl] at h1
  simp only [Option.map_some, Option.map_eq_some_iff] at h1
  obtain ⟨y, hy, e⟩ := h1
  obtain ⟨fr, l3⟩ := y
  cases fr with
  | true => exact absurd hy (h2 l3)
  | false => exact ⟨l3, hy⟩
 intro fuel
 induction fuel with
 | zero =>
  intro listed a w σE β S hsz hu hcl hrel hM
  have hnil : Region.ready .any ops listed = [] := by
   refine List.eq_nil_iff_forall_not_mem.2 fun i hi => ?_
   obtain ⟨h1, h2, _⟩ := qi.1 hi
   have : i ∈ (List.range ops.size).filter fun i => !listed.getD i false := List.mem_filter.2 ⟨List.mem_range.2 h1, by rw [← qe (by omega), h2]; rfl⟩
   unfold ot at hu
   rw [List.length_eq_zero_iff.1 hu] at this
   cases this
  exact ⟨hnil, hdone listed a w σE β S hsz hrel hM hnil⟩
 | succ fuel ih =>
  intro listed a w σE β S hsz hu hcl hrel hM
  refine ⟨hdone listed a w σE β S hsz hrel hM, fun i hi => ?_⟩
  obtain ⟨h1, h2, h3⟩ := qi.1 hi
  rw [qe (by omega)] at h2
  obtain ⟨o, ho⟩ : ∃ o, ops[i]? = some o := ⟨ops[i], by simp [h1]⟩
  refine ahh (L := fun i => listed.getD i false = true) hT hst hS hA hN hcl ho (by rw [h2]; simp) (h3 o ho) (fun d hd' => by rw [hM.n]; exact hd o (ar1 ho) d hd') hrel hM ?_
  intro a' w' σ' β' S' hrel' hM'
  refine ih (listed.setIfInBounds i true) a' w' σ' β' S' (by simp [hsz]) (by have := ab8 h1 hsz h2; omega) ?_ hrel' ?_
  ·intro k o' hk ho' p hp
   rw [uo (by omega)] at hk ⊢
   rcases hk with hk | rfl
   ·exact .inl (hcl k o' hk ho' p hp)
   ·exact .inl (h3 o' ho' p hp)
  ·have : (fun k => (listed.setIfInBounds i true).getD k false = true) = fun k => listed.getD k false = true ∨ k = i := by
    funext k
    exact propext (uo (by omega))
   rw [this]
   exact hM'
theorem a44 {x : A} {mv : List Nat} (hm : (mv.all fun b => C.V.contains b) = true) (h : C.V = [] ∨ x.nr C.V = true) : x.kl mv = x := by
 rcases h with h | h
 ·have : mv = [] := by
   cases mv with
   | nil => rfl
   | cons b mv => rw [h] at hm; simp at hm
  rw [this, agc]
 ·exact a18 (fun b hb => List.all_eq_true.1 hm b (by simpa using hb)) h
theorem a3d {l : List A} {mv : List Nat} (hm : (mv.all fun b => C.V.contains b) = true) (h : C.V = [] ∨ A.nrs C.V l = true) : A.kls mv l = l := by
 rcases h with h | h
 ·have : mv = [] := by
   cases mv with
   | nil => rfl
   | cons b mv => rw [h] at hm; simp at hm
  rw [this, agc.kls_nil]
 ·exact aki (fun b hb => List.all_eq_true.1 hm b (by simpa using hb)) h
theorem arw {V : List Nat} {b : Nat} (hb : V.contains b = true) {x : A} (h : x.nr V = true) : x.kill b = x := by
 have key : (∀ x : A, x.nr V = true → x.kill b = x) ∧ ∀ l : List A, A.nrs V l = true → A.gl b l = l := by
  refine ⟨fun x => ?_, fun l => ?_⟩
  ·exact kn1 hb x
  ·exact kn2 hb l
 exact key.1 x h
where
 kn1 {V : List Nat} {b : Nat} (hb : V.contains b = true) : ∀ x : A, x.nr V = true → x.kill b = x
  | .d x, _ => rfl
  | .elem x, _ => rfl
  | .ptr c o, h => by
   simp only [A.nr, Bool.not_eq_true'] at h
   have : ¬ c = b := fun e => by rw [e, hb] at h; cases h
   simp only [A.kill, this, if_false]
  | .own c o n s, h => by
   simp only [A.nr, Bool.not_eq_true'] at h
   have : ¬ c = b := fun e => by rw [e, hb] at h; cases h
   simp only [A.kill, this, if_false]
  | .agg l, h => by simp only [A.nr] at h; simp only [A.kill, kn2 hb l h]
  | .fn f l, h => by simp only [A.nr] at h; simp only [A.kill, kn2 hb l h]
 kn2 {V : List Nat} {b : Nat} (hb : V.contains b = true) : ∀ l : List A, A.nrs V l = true → A.gl b l = l
  | [], _ => rfl
  | x :: l, h => by
   simp only [A.nrs, Bool.and_eq_true] at h
   simp only [A.gl, kn1 hb x h.1, kn2 hb l h.2]
theorem aoz {hp : Nat → Option (Bool × List A)} {sz : Nat} {x : A} {K : Nat → List D → Prop} (h : ew hp sz x K) :
  ∃ n l, K n l ∧ ∀ (hp' : Nat → Option (Bool × List A)) (K' : Nat → List D → Prop), (∀ b, cv x b → ∀ fr l, hp b = some (fr, l) → ∃ fr', hp' b = some (fr', l)) → K' n l → ew hp' sz x K' := by
 unfold ew at h
 split at h
 ·obtain ⟨h1, h2⟩ := h
  exact ⟨_, _, h2, fun hp' K' _ h' => ⟨h1, h'⟩⟩
 ·exact ⟨_, _, h, fun hp' K' _ h' => h'⟩
 ·rename_i b o n sz'
  split at h
  ·rename_i fr l hl
   obtain ⟨ds, hds, h2, h3, h4⟩ := h
   refine ⟨_, _, h4, fun hp' K' hh h' => ?_⟩
   obtain ⟨fr', hl'⟩ := hh b rfl fr l hl
   simp only [ew, hl']
   exact ⟨ds, hds, h2, h3, h'⟩
  ·exact h.elim
 ·exact h.elim
theorem ln (σ : St) (b c : Nat) (row : List A) : lk ((σ.kill b).wr b row).heap c = if c = b then (lk σ.heap c).map fun x => (x.1, row) else (lk σ.heap c).map fun x => (x.1, A.gl b x.2) := by
 rw [wo]
 simp only [St.kill, dh, Option.map_map]
 split <;> rfl
theorem ava (hT : b6 P T) {i : Nat} {σ σg : St} {K : A → St → Prop} (hN : NR C σ) (hc : isO C i = true) (hg : a8 ops o σg) (e1 : Eqv σg σ) (hh : σg.heap = σ.heap) (h : a12 P G T C σg o.dst o.op K) :
  ∃ r τ, K r τ ∧ oa P G T C ops i o σ (τ.put o.dst r) := by
 obtain ⟨n, env, heap⟩ := σg
 obtain ⟨dst, op, type, pos, after, guard⟩ := o
 have hgσ : a8 ops ⟨dst, op, type, pos, after, guard⟩ σ := by
  rcases hg with hg | ⟨k, want, g, h1, h2, h3⟩
  ·exact .inl hg
  ·exact .inr ⟨k, want, g, h1, h2, by rw [← e1.get]; exact h3⟩
 have hNg : ∀ t, t ∉ C.ps → C.V = [] ∨ (σ.get t).nr C.V = true := fun t ht => by
  rcases hN with e | e
  ·exact .inl e
  ·exact .inr (e.1 t ht)
 simp only [a12] at h
 split at h
 ·rename_i c
  obtain ⟨callee, args, at_⟩ := c
  simp only at h
  have hmem : ∀ x ∈ args.toList, x ∈ (Op.call ⟨callee, args, at_⟩).operands := fun x hx => by
   simp only [Op.operands, Call.operands]
   cases callee <;> simp <;> first | exact .inr (by simpa using hx) | simpa using hx
  split at h
  ·split at h
   rotate_left
   ·exact h.elim
   rename_i f
   obtain ⟨hs, ρ, ν, rR, houtR, ha, hi, hcr, hw, hr, ho, hk⟩ := h
   rename_i cargs hin r hout
   have hh : heap = σ.heap := hh
   subst hh
   have hok := hcr
   simp only [wh, Bool.and_eq_true, List.all_eq_true] at hok
   obtain ⟨⟨⟨⟨⟨⟨⟨⟨n1, n2⟩, k1⟩, k2⟩, k3⟩, k4⟩, n3⟩, g1⟩, g2⟩ := hok
   simp only [Bool.and_eq_true] at hw
   obtain ⟨⟨⟨w1, w2⟩, w3⟩, w4⟩ := hw
   have keys : ∀ x ∈ hout, x.1 ∈ (ρ ++ ν).map (·.1) := fun x hx => by simpa using k3 x.1 (List.mem_map.2 ⟨x, hx, rfl⟩)
   have hkey : ∀ b, ((ρ ++ ν).map (·.2)).contains b = true → ∃ b', (b', b) ∈ ρ ++ ν := fun b hb => by
    obtain ⟨x, hx, rfl⟩ := List.mem_map.1 (List.contains_iff_mem.1 hb)
    exact ⟨x.1, hx⟩
   have htgW : ∀ b, ((ρ ++ ν).map (·.2)).contains b = true → C.W.contains b = true := fun b hb => List.all_eq_true.1 w1 b (List.contains_iff_mem.1 hb)
   have hWtg : ∀ b, C.W.contains b = true → ((ρ ++ ν).map (·.2)).contains b = false → lk σ.heap b = none := fun b hb hn => by
    have := List.all_eq_true.1 w2 b (List.contains_iff_mem.1 hb)
    rw [hn] at this
    have this : (lk σ.heap b).isNone = true := by simpa using this
    cases e : lk σ.heap b with
    | none => rfl
    | some y => rw [e] at this; cases this
   have hlkR : ∀ b b', (b', b) ∈ ρ ++ ν → lk houtR b = (lk hout b').map fun x => (x.1, A.vw (ρ ++ ν) x.2) := fun b b' hm => by rw [← ho]; exact aez n1 n2 keys hm
   have hnone : ∀ b, ((ρ ++ ν).map (·.2)).contains b = false → lk houtR b = none := fun b hb => by
    rw [← ho]; exact zd keys fun h => by rw [List.contains_iff_mem.2 h] at hb; cases hb
   have hfl : ∀ b l, lk houtR b ≠ some (true, l) := fun b l hl => by
    cases hb : ((ρ ++ ν).map (·.2)).contains b with
    | false => rw [hnone b hb] at hl; cases hl
    | true =>
     obtain ⟨b', hm⟩ := hkey b hb
     rw [hlkR b b' hm] at hl
     simp only [Option.map_eq_some_iff] at hl
     obtain ⟨y, hy, e⟩ := hl
     have := List.all_eq_true.1 w4 _ (lh hy)
     simp only [Prod.mk.injEq] at e
     rw [e.1] at this; cases this
   have hkk : ∀ b, ((ρ ++ ν).map (·.2)).contains b = true → lk houtR b ≠ none := fun b hb => by
    obtain ⟨b', hm⟩ := hkey b hb
    rw [hlkR b b' hm]
    have : b' ∈ hout.map (·.1) := by simpa using k4 b' (List.mem_map.2 ⟨_, hm, rfl⟩)
    obtain ⟨x, hx⟩ := j6 this
    rw [hx]; simp
   have hlive : ∀ b l, ((ρ ++ ν).map (·.2)).contains b = true → lk σ.heap b ≠ some (true, l) := fun b l hb hl => by
    obtain ⟨b', hm⟩ := hkey b hb
    rcases List.mem_append.1 hm with hm | hm
    ·have hb' : b' ∈ hin.map (·.1) := by simpa using k2 b' (List.mem_map.2 ⟨_, hm, rfl⟩)
     obtain ⟨x, hx⟩ := j6 hb'
     have := (s9.get hi (b := b') (fr := x.1) (l := x.2) hx).1
     have hρ1 : gu (ρ.map (·.1)) = true := by
      have pre : ∀ (l l2 : List Nat), gu (l ++ l2) = true → gu l = true := by
       intro l l2 hl
       induction l with
       | nil => rfl
       | cons x l ih =>
        simp only [List.cons_append, gu, Bool.and_eq_true, Bool.not_eq_true'] at hl ⊢
        refine ⟨?_, ih hl.2⟩
        cases hx : l.contains x with
        | false => rfl
        | true =>
         have : (l ++ l2).contains x = true := by simp only [List.contains_iff_mem] at hx ⊢; exact List.mem_append_left _ hx
         rw [this] at hl; cases hl.1
      exact pre _ _ (by rw [← List.map_append]; exact n1)
     rw [aqf hρ1 hm, hl] at this
     simp only [Option.some.injEq, Prod.mk.injEq] at this
     exact absurd this.1 (by decide)
    ·have := (g2 _ hm).2
     rw [hl] at this; cases this
   have hlka : ∀ (hp : Hp) b, lk (houtR ++ m8 ((ρ ++ ν).map (·.2)) hp) b = eff ((ρ ++ ν).map (·.2)) houtR hp b := fun hp b => by
    rw [akm, xh]
    unfold eff
    cases hb : ((ρ ++ ν).map (·.2)).contains b with
    | false => rw [hnone b hb]; rfl
    | true =>
     have := hkk b hb
     cases e : lk houtR b with
     | none => exact absurd e this
     | some y => simp
   have hget : ∀ (τ : St) (hp : Hp) t, (t ∉ C.ps → C.V = [] ∨ (τ.get t).nr C.V = true) → ∀ r, (St.put ⟨τ.n, klE (ja ρ) τ.env, hp⟩ dst r).get t = pG C dst r (fun t => (τ.get t).kl (ja ρ)) τ t := fun τ hp t ht r => by
    have e0 : St.get ⟨τ.n, klE (ja ρ) τ.env, hp⟩ t = (τ.get t).kl (ja ρ) := by
     unfold St.get
     simp only [akh]
     cases lk τ.env t <;> rfl
    have e1 : ¬ dst = some t → St.get ⟨τ.n, klE (ja ρ) τ.env, hp⟩ t = pG C dst r (fun t => (τ.get t).kl (ja ρ)) τ t := fun hne => by
     unfold pG
     rw [if_neg hne, e0]
     split
     ·rfl
     ·rename_i hp
      exact a44 w3 (ht (by simpa using hp))
    cases dst with
    | none => exact e1 (by simp)
    | some d =>
     rw [bc]
     by_cases e : d = t
     ·rw [if_pos e]; unfold pG; rw [if_pos (by rw [e])]
     ·rw [if_neg e]; exact e1 (fun h => e (by cases h; rfl))
   have heapW : ∀ (τ : St) b, (C.W.contains b = true → lk τ.heap b = lk σ.heap b) → lk (houtR ++ m8 ((ρ ++ ν).map (·.2)) τ.heap) b = pH C (fun b => if ((ρ ++ ν).map (·.2)).contains b then lk houtR b else none) τ b := fun τ b hτ => by
    rw [hlka]
    unfold eff pH
    cases hb : ((ρ ++ ν).map (·.2)).contains b with
    | true =>
     rw [htgW b hb]
     show lk houtR b = (if ((ρ ++ ν).map (·.2)).contains b = true then lk houtR b else none)
     rw [if_pos hb]
    | false =>
     cases hbW : C.W.contains b with
     | true =>
      rw [hτ hbW, hWtg b hbW hb]
      show none = (if ((ρ ++ ν).map (·.2)).contains b = true then lk houtR b else none)
      rw [if_neg (by rw [hb]; decide)]
     | false => rfl
   refine ⟨rR, _, hk, .own hc hgσ rR (fun t => (σ.get t).kl (ja ρ)) (fun b => if ((ρ ++ ν).map (·.2)).contains b then lk houtR b else none) ?_ ?_ ?_ ?_ ?_ ?_ ?_⟩
   ·rw [mq]; exact e1.n
   ·intro t
    have := hget ⟨n, env, σ.heap⟩ (houtR ++ m8 ((ρ ++ ν).map (·.2)) σ.heap) t (fun ht => by rw [e1.get]; exact hNg t ht) rR
    rw [this]
    unfold pG
    simp only [e1.get]
   ·intro b
    rw [aq]
    exact heapW σ b (fun _ => rfl)
   ·intro b l hl
    have hl : (if ((ρ ++ ν).map (·.2)).contains b = true then lk houtR b else none) = some (true, l) := hl
    split at hl
    ·exact hfl b l hl
    ·cases hl
   ·intro b l hb hl
    cases e : ((ρ ++ ν).map (·.2)).contains b with
    | true => exact hlive b l e hl
    | false => rw [hWtg b (by simpa using hb) e] at hl; cases hl
   ·intro b hb hl
    cases e : ((ρ ++ ν).map (·.2)).contains b with
    | true =>
     rw [if_pos rfl]; exact hkk b e
    | false => exact absurd (hWtg b (by simpa using hb) e) hl
   ·intro σ' hsm hdst hP hW _ hNR w0 M S0 a w β S hrel Q next hnext
    have hargs : args.toList.map (σ'.ev G) = args.toList.map (St.ev G ⟨n, env, σ.heap⟩) := List.map_congr_left fun x hx => by
     rw [hsm x (hmem x hx)]
     exact (e1.ev x).symm
    have hin' : s9 (aab σ'.heap []) ρ hin := by
     show s9 σ'.heap ρ hin
     have hin0 : ∀ (h : Hp), s9 σ.heap ρ h → (∀ x ∈ h, rn ρ x.1 ∈ C.W) → s9 σ'.heap ρ h := by
      intro h
      induction h with
      | nil => intro _ _; exact trivial
      | cons y h ih =>
       intro hy hm
       obtain ⟨b, fr, l⟩ := y
       simp only [s9] at hy ⊢
       exact ⟨⟨by rw [hW _ (hm (b, fr, l) (List.mem_cons_self ..))]; exact hy.1.1, hy.1.2⟩, ih hy.2 fun x hx => hm x (List.mem_cons_of_mem _ hx)⟩
     refine hin0 hin hi fun x hx => ?_
     have hx1 : x.1 ∈ ρ.map (·.1) := List.contains_iff_mem.1 (k1 x.1 (List.mem_map.2 ⟨x, hx, rfl⟩))
     have hm := acy hx1
     have : rn ρ x.1 ∈ (ρ ++ ν).map (·.2) := List.mem_map.2 ⟨_, List.mem_append_left _ hm, rfl⟩
     simpa using List.all_eq_true.1 w1 _ this
    have hcr' : wh ρ ν σ'.heap (hin.map (·.1)) (hout.map (·.1)) = true := by
     simp only [wh, Bool.and_eq_true, List.all_eq_true] at hcr ⊢
     refine ⟨hcr.1, fun x hx => ⟨(hcr.2 x hx).1, ?_⟩⟩
     have hxW : x.2 ∈ C.W := by
      have : x.2 ∈ (ρ ++ ν).map (·.2) := List.mem_map.2 ⟨x, List.mem_append_right _ hx, rfl⟩
      simpa using List.all_eq_true.1 w1 _ this
     rw [hW x.2 hxW]; exact (hcr.2 x hx).2
    refine adr hrel (o := ⟨dst, .call ⟨.value (.func f), args, at_⟩, type, pos, after, guard⟩) rfl
     (K := fun r τ => r = rR ∧ τ = ⟨σ'.n, klE (ja ρ) σ'.env, houtR ++ m8 ((ρ ++ ν).map (·.2)) (klH (ja ρ) (aab σ'.heap []))⟩)
     ⟨hs, ρ, ν, rR, houtR, [], by rw [hargs]; exact atf ha rfl, hin', hcr', hr, ho, rfl, rfl⟩ Q next ?_
    rintro r2 τ v w' β' S' ⟨rfl, rfl⟩ hrel2 hR hn
    have hput := hrel2.put hR (fun d hd => hdst d hd)
    have hrows : ∀ b f l, ((ρ ++ ν).map (·.2)).contains b = false → lk σ'.heap b = some (f, l) → A.kls (ja ρ) l = l := fun b f l hb hl => by
     refine a3d w3 ?_
     rcases hNR with e | ⟨_, e⟩
     ·exact .inl e
     ·by_cases hbW : b ∈ C.W
      ·rw [hW b hbW, hWtg b (by simpa using hbW) hb] at hl; cases hl
      ·exact .inr (e b f l hbW hl)
    have hkH : ∀ b, ((ρ ++ ν).map (·.2)).contains b = false → lk (klH (ja ρ) (aab σ'.heap [])) b = lk σ'.heap b := fun b hb => by
     rw [aph]
     show (lk σ'.heap b).map _ = _
     cases e : lk σ'.heap b with
     | none => rfl
     | some y =>
      obtain ⟨f', l⟩ := y
      simp only [Option.map_some]
      rw [hrows b f' l hb e]
    let τ' : St := ⟨σ'.n, klE (ja ρ) σ'.env, houtR ++ m8 ((ρ ++ ν).map (·.2)) σ'.heap⟩
    have heqh : ∀ b, lk (houtR ++ m8 ((ρ ++ ν).map (·.2)) (klH (ja ρ) (aab σ'.heap []))) b = lk τ'.heap b := fun b => by
     rw [hlka, hlka]
     unfold eff
     cases hb : ((ρ ++ ν).map (·.2)).contains b with
     | true => rfl
     | false => simp only [Bool.false_eq_true, if_false]; exact hkH b hb
    have heq : Eqv ⟨σ'.n, klE (ja ρ) σ'.env, houtR ++ m8 ((ρ ++ ν).map (·.2)) (klH (ja ρ) (aab σ'.heap []))⟩ τ' :=
     ⟨rfl, fun _ => rfl, fun b => by rw [heqh b], fun b l hl => ⟨l, by rw [heqh b]; exact hl⟩⟩
    have hfd : FD (τ'.put dst r2) := fun b l hl => by
     rw [aq] at hl
     have h1 : lk τ'.heap b = some (true, l) := hl
     rw [hlka] at h1
     unfold eff at h1
     split at h1
     ·exact absurd h1 (hfl b l)
     ·exact hrel.fd b l h1
    obtain ⟨S2, hrel3⟩ := hput.azb (heq.put dst r2) hfd
    refine hnext (τ'.put dst r2) _ w' β' S2 hrel3 (mq _ _ _) (fun t => ?_) (fun b => ?_)
    ·have := hget σ' (houtR ++ m8 ((ρ ++ ν).map (·.2)) σ'.heap) t (fun ht => by
      rcases hNR with e | e
      ·exact .inl e
      ·exact .inr (e.1 t ht)) r2
     rw [this]
     unfold pG
     split
     ·rfl
     ·split
      ·rename_i hp
       show (σ'.get t).kl (ja ρ) = (σ.get t).kl (ja ρ)
       rw [hP t (by simpa using hp)]
      ·rfl
    ·rw [aq]
     exact heapW σ' b (fun hb => hW b (by simpa using hb))
  ·split at h
   rotate_left
   ·exact h.elim
   obtain ⟨happ, h⟩ := h
   have hh : heap = σ.heap := hh
   subst hh
   have hkk : kindOf (Op.call ⟨.builtin .append, args, at_⟩) = 2 := rfl
   unfold a2o at happ
   simp only at happ
   split at happ
   ·rename_i s x hargs
    split at happ
    ·rename_i b o' n' sz es
     simp only [Bool.and_eq_true] at happ
     obtain ⟨⟨hbW, hbV⟩, hfz⟩ := happ
     have hfz : ∀ c l, C.W.contains c = true → lk σ.heap c ≠ some (true, l) := fun c l hc hl => by
      have := List.all_eq_true.1 hfz c (List.contains_iff_mem.1 hc)
      rw [hl] at this; cases this
     have hms : s ∈ (Op.call ⟨.builtin .append, args, at_⟩).operands := hmem s (by rw [hargs]; simp)
     have hmx : x ∈ (Op.call ⟨.builtin .append, args, at_⟩).operands := hmem x (by rw [hargs]; simp)
     simp only [uv, hargs] at h
     split at h
     ·rename_i t t2 s' x' d hcal hat har
      cases har
      unfold bg at h
      split at h
      ·rename_i y hy
       split at h
       ·rename_i e hk
        split at h
        ·rename_i ye hye
         obtain ⟨h1, h⟩ := h
         obtain ⟨m, l, h, tc⟩ := aoz h
         obtain ⟨h2, h⟩ := h
         rw [es] at h
         simp only at h
         split at h
         ·rename_i l' hl'
          obtain ⟨h3, h4, h5, ds, hds, row, hrow, hK⟩ := h
          have hl0 : lk σ.heap b = some (false, l') := hl'
          have evs : σ.ev G s = .own b o' n' sz := by rw [← e1.ev s]; exact es
          have hkill : ∀ (τ : St) t, (t ∉ C.ps → C.V = [] ∨ (τ.get t).nr C.V = true) → ∀ r, (((τ.kill b).wr b row).put (some d) r).get t = pG C (some d) r (fun t => (τ.get t).kill b) τ t := fun τ t ht r => by
           rw [bc]
           unfold pG
           by_cases e : d = t
           ·rw [if_pos e, if_pos (by rw [e])]
           ·rw [if_neg e, if_neg (fun h => e (by cases h; rfl))]
            have e0 : ((τ.kill b).wr b row).get t = (τ.get t).kill b := af5 τ b t
            rw [e0]
            split
            ·rfl
            ·rename_i hp
             rcases ht (by simpa using hp) with hV | hV
             ·rw [hV] at hbV; simp at hbV
             ·exact arw hbV hV
          have hheap : ∀ (τ : St) c, NR C τ → (C.W.contains c = true → lk τ.heap c = lk σ.heap c) → lk ((τ.kill b).wr b row).heap c = pH C (fun c => if C.W.contains c then lk ((σ.kill b).wr b row).heap c else none) τ c := fun τ c hNτ hτ => by
           unfold pH
           cases hcW : C.W.contains c with
           | true =>
            rw [ln, hτ hcW]
            show _ = (if C.W.contains c = true then lk ((σ.kill b).wr b row).heap c else none)
            rw [if_pos hcW, ln]
           | false =>
            rw [ln]
            have hne : ¬ c = b := fun e => by rw [e, hbW] at hcW; cases hcW
            rw [if_neg hne]
            cases e : lk τ.heap c with
            | none => rfl
            | some y =>
             obtain ⟨f', r'⟩ := y
             simp only [Option.map_some]
             rcases hNτ with hV | hV
             ·rw [hV] at hbV; simp at hbV
             ·have := (arw.kn2 hbV r' (hV.2 c f' r' (by simpa using hcW) e))
              rw [this]; rfl
          refine ⟨_, _, hK, .own hc hgσ (.own b 0 (n' + m) sz) (fun t => (σ.get t).kill b) (fun c => if C.W.contains c then lk ((σ.kill b).wr b row).heap c else none) ?_ ?_ ?_ ?_ ?_ ?_ ?_⟩
          ·exact e1.n
          ·intro t
           have := hkill ⟨n, env, σ.heap⟩ t (fun ht => by rw [e1.get]; exact hNg t ht) (.own b 0 (n' + m) sz)
           refine this.trans ?_
           unfold pG
           simp only [e1.get]
          ·intro c
           have := hheap σ c hN (fun _ => rfl)
           rw [← this]
           rw [aq, ln, ln]
          ·intro c l hl
           have hl : (if C.W.contains c = true then lk ((σ.kill b).wr b row).heap c else none) = some (true, l) := hl
           split at hl
           ·rename_i hcW
            rw [ln] at hl
            cases e : lk σ.heap c with
            | none => rw [e] at hl; split at hl <;> cases hl
            | some y =>
             obtain ⟨f', r'⟩ := y
             have : f' = false := by
              cases f' with
              | false => rfl
              | true => exact absurd e (hfz c r' hcW)
             rw [e, this] at hl
             split at hl <;> cases hl
           ·cases hl
          ·exact fun c l hcW => hfz c l (by simpa using hcW)
          ·intro c hcW hne
           show (if C.W.contains c = true then lk ((σ.kill b).wr b row).heap c else none) ≠ none
           rw [if_pos (by simpa using hcW), ln]
           cases e : lk σ.heap c with
           | none => exact absurd e hne
           | some y => split <;> simp
          ·intro σ' hsm hdst hP hW hRe hNR w0 M S0 a w β S hrel Q next hnext
           have hs' : σ'.ev G s = .own b o' n' sz := by rw [hsm s hms]; exact evs
           have hx' : σ'.ev G x = St.ev G ⟨n, env, σ.heap⟩ x := by rw [hsm x hmx]; exact (e1.ev x).symm
           have hb' : σ'.hp b = some (false, l') := by
            show lk σ'.heap b = _
            rw [hW b (by simpa using hbW)]; exact hl0
           have hev : ni P G T σ' ⟨some d, .call ⟨.builtin .append, args, at_⟩, type, pos, after, guard⟩ (fun st => st = ((σ'.kill b).wr b row).put (some d) (.own b 0 (n' + m) sz)) := by
            simp only [ni, hkk, uv, hat, hargs, bg, hy, hk, hye, hs', hb']
            refine ⟨h1, ?_⟩
            rw [hx']
            refine tc σ'.hp _ (fun c hc fr r hr => ?_) ⟨h2, h3, h4, h5, ds, hds, row, hrow, ?_⟩
            ·by_cases hcW : c ∈ C.W
             ·have hr : lk σ.heap c = some (fr, r) := hr
              exact ⟨fr, by show lk σ'.heap c = _; rw [hW c hcW]; exact hr⟩
             ·have hr : lk σ.heap c = some (fr, r) := hr
              exact hRe x hmx c (by rw [← e1.ev x]; exact hc) hcW fr r hr
            ·rw [St.bq]
           refine Oper.wp_mono ?_ (ve hT hrel hdst hev Q)
           rintro a' w' ⟨σ2, β2, S2, rfl, h6, h7⟩
           refine hnext _ a' w' β2 S2 h6 h7 (fun t => ?_) (fun c => ?_)
           ·rw [hkill σ' t (fun ht => by
             rcases hNR with e | e
             ·exact .inl e
             ·exact .inr (e.1 t ht)) _]
            unfold pG
            split
            ·rfl
            ·split
             ·rename_i hp
              show (σ'.get t).kill b = (σ.get t).kill b
              rw [hP t (by simpa using hp)]
             ·rfl
           ·rw [aq]
            exact hheap σ' c hNR (fun hcW => hW c (by simpa using hcW))
         ·exact h.elim
        ·exact h.elim
       ·exact h.elim
      ·exact h.elim
     ·exact h.elim
    ·cases happ
   ·cases happ
  ·exact h.elim
 ·exact h.elim
theorem yc (hT : b6 P T) {Q : St → Prop} (hwr : ∀ (i : Nat) (o : Oper), ops[i]? = some o → isO C i = false → kindOf o.op = 2 → ej o = true) : ∀ (rest : List Oper) (k : Nat) (σ : St), ops.toList.drop k = rest → (∀ o ∈ rest, x9 T o.op = true) → NR C σ → vf P G T C ops k rest σ Q →
  ∃ σs : Nat → St, σs k = σ ∧ (∃ τ, Q τ ∧ Eqv (σs (k + rest.length)) τ ∧ Eqv τ (σs (k + rest.length))) ∧ (∀ i, k ≤ i → i ≤ k + rest.length → NR C (σs i)) ∧ ∀ i o, k ≤ i → ops[i]? = some o → oa P G T C ops i o (σs i) (σs (i + 1))
 | [], k, σ, hd, _, hn, h => ⟨fun _ => σ, rfl, ⟨σ, h, Eqv.refl _, Eqv.refl _⟩, fun _ _ _ => hn, fun i o hi ho => by
   have : ops.toList.length ≤ k := List.drop_eq_nil_iff.1 hd
   have h2 : i < ops.size := by
    rcases Nat.lt_or_ge i ops.size with h | h
    ·exact h
    ·simp [Array.getElem?_eq_none h] at ho
   simp at this
   omega⟩
 | o :: rest, k, σ, hd, hs, hn, h => by
  have hok : ops[k]? = some o := by
   have : (ops.toList.drop k)[0]? = some o := by rw [hd]; rfl
   simpa using this
  have hd' : ops.toList.drop (k + 1) = rest := by
   have : (ops.toList.drop k).drop 1 = rest := by rw [hd]; rfl
   rwa [List.drop_drop] at this
  simp only [vf] at h
  obtain ⟨σg, e1, e2, hh, hcase⟩ := zm h
  have key : ∃ τ, oa P G T C ops k o σ τ ∧ NR C τ ∧ vf P G T C ops (k + 1) rest τ Q := by
   have nr : ∀ τ, oa P G T C ops k o σ τ → (C.V = [] ∨ ((∀ d, o.dst = some d → d ∉ C.ps → (τ.get d).nr C.V = true) ∧ ((kindOf o.op = 1 ∨ kindOf o.op = 2) → ka C τ.heap = true))) → NR C τ := fun τ hstep hv => by
    rcases hv with hv | ⟨hv, hw⟩
    ·exact .inl hv
    refine aq5 hn (.inr fun t ht => ?_) ?_
    ·by_cases e : o.dst = some t
     ·exact .inr (hv t e ht)
     ·exact .inl (aje hstep e fun h => ht h.2)
    ·by_cases h1 : kindOf o.op = 1 ∨ kindOf o.op = 2
     ·exact .inr (.inr (hw h1))
     ·exact .inr (.inl fun b hb => an3 hstep (fun h => hb h.2) (fun h => h1 (.inr (c9 h.2.1).1)) (fun h => h1 (.inl h.2.1)))
   have nr2 : NR C (σg.put o.dst (.d (.tup []))) := by
    refine aq5 hn (.inr fun t ht => ?_) (.inr (.inl fun b hb => by unfold ct; rw [aq, hh]))
    cases e : o.dst with
    | none => exact .inl (e1.get t)
    | some d =>
     rw [bc]
     split
     ·exact .inr rfl
     ·exact .inl (e1.get t)
   rcases hcase with ⟨hg, hy⟩ | ⟨hg, hno⟩
   ·cases hc : C.cs.contains k with
    | true =>
     rw [hc] at hy
     simp only [cond_true] at hy
     obtain ⟨r, τ, h1, h2⟩ := ava hT (ops := ops) (o := o) hn hc hg e1 hh hy
     rw [St.bq] at h1
     obtain ⟨h3, h4⟩ := azi h1
     exact ⟨_, h2, nr _ h2 h4, h3⟩
    | false =>
     rw [hc] at hy
     simp only [cond_false] at hy
     obtain ⟨τ, h1, h2⟩ := aic (hs o (by simp)) hg hy
     obtain ⟨h3, h4⟩ := azi h1
     obtain ⟨τ', hstep', e3, e4, hh'⟩ := h2.congr e1 e2 hh
     have hst : oa P G T C ops k o σ τ := .old hc (hwr k o hok hc) ⟨τ', hstep', e4, e3, hh'⟩
     exact ⟨τ, hst, nr _ hst h4, h3⟩
   ·rw [St.bq] at hno
    have hst : oa P G T C ops k o σ (σg.put o.dst (.d (.tup []))) := by
     cases hc : C.cs.contains k with
     | true =>
      refine .skip hc ?_ ?_ (fun t => ?_) (fun b => ?_)
      ·obtain ⟨k, want, g, h1, h2, h3⟩ := hg
       exact ⟨k, want, g, h1, h2, by rw [← e1.get]; exact h3⟩
      ·rw [mq]; exact e1.n
      ·cases o.dst with
       | none => exact e1.get t
       | some d =>
        rw [bc, bc]
        split
        ·rfl
        ·exact e1.get t
      ·rw [aq, hh]
     | false =>
      obtain ⟨τ', hstep', e3, e4, hh'⟩ := (uy.skip (P := P) (T := T) hg rfl : uy P G T ops o σg (σg.put o.dst (.d (.tup [])))).congr e1 e2 hh
      exact .old hc (hwr k o hok hc) ⟨τ', hstep', e4, e3, hh'⟩
    exact ⟨_, hst, nr2, hno⟩
  obtain ⟨τ, hstep, hnr, hrest⟩ := key
  obtain ⟨σs, h0, hQ, hN, hst⟩ := yc hT hwr rest (k + 1) τ hd' (fun o ho => hs o (by simp [ho])) hnr hrest
  refine ⟨fun i => if i ≤ k then σ else σs i, by simp, ?_, fun i h1 h2 => ?_, fun i o' hi ho' => ?_⟩
  ·have e : k + (o :: rest).length = k + 1 + rest.length := by simp; omega
   rw [e]
   simp only [show ¬ (k + 1 + rest.length ≤ k) by omega, if_false]
   exact hQ
  ·by_cases e : i ≤ k
   ·simp only [e, if_true]; exact hn
   ·simp only [e, if_false]
    refine hN i (by omega) ?_
    simp at h2; omega
  ·by_cases e : i = k
   ·subst e
    rw [hok] at ho'; cases ho'
    simp only [Nat.le_refl, if_true, show ¬ (i + 1 ≤ i) by omega, if_false, h0]
    exact hstep
   ·simp only [show ¬ (i ≤ k) by omega, show ¬ (i + 1 ≤ k) by omega, if_false]
    exact hst i o' (by omega) ho'
def mj (G : bb) (C : Cfg) (ops : Array Oper) (τ : St) : Bool := C.fs.all fun i => match ops[i]? with
 | some x => x.op.operands.all fun q => match amn (τ.ev G q) with
  | some l => l.all fun b => !C.W.contains b
  | none => false
 | none => true
theorem ab7 {τ : St} {i : Nat} {x : Oper} (hlp : xo C ops x = false) (hst : ∀ i o, ops[i]? = some o → oa P G T C ops i o (σs i) (σs (i + 1))) (h : stays ops i = true) (hx : ops[i]? = some x) (he : Eqv (σs ops.size) τ) {q : Operand} (hq : q ∈ x.op.operands) : τ.ev G q = (σs i).ev G q := by
 cases q with
 | tmp t =>
  have h1 := vj hst (a := i) (m := ops.size) (t := t) (Nat.le_of_lt (lt_size hx)) (Nat.le_refl _) (fun k hk hk2 htc => by
   obtain ⟨o, ho, hto⟩ := htc
   rcases hto with hto | ⟨_, hto⟩
   ·exact ahg h hx hq k o hk ho hto
   ·rw [acv (ops := ops) (.inl (acw hq)) hto] at hlp; cases hlp)
  have h2 := he.get t
  show τ.get t = (σs i).get t
  rw [← h1, h2]
 | _ => rfl
theorem z7 (hT : b6 P T) (hm : P.follows .mixedOrders = true) {id : Nat} {σ : St} {dr : Bool} (hok : ac4 T C σ.n ops dr = true) (hb : ka C σ.heap = true) {Q : Exit → Act → World → Prop} {K : St → Prop}
  (hQ : ∀ a w, z5 G w0 M S0 σ.n K a w → Q .normal a w) (hrel : Rel G w0 M S0 σ a w β S)
  (h : vf P G T C ops 0 ops.toList ⟨σ.n, klE C.V σ.env, σ.heap⟩ (fun τ => b7 (mj G C ops τ = true) (K τ))) : (Code.region id ops dr).wp P Q a w := by
 obtain ⟨hd, rfl, hS⟩ := am5 hok
 have hrel0 : Rel G w0 M S0 ⟨σ.n, klE C.V σ.env, σ.heap⟩ a w β S := by
  refine { hrel with env := ?_ }
  intro t x hx
  have hx : lk (klE C.V σ.env) t = some x := hx
  rw [akh] at hx
  cases e : lk σ.env t with
  | none => rw [e] at hx; cases hx
  | some y =>
   rw [e] at hx
   simp only [Option.map_some, Option.some.injEq] at hx
   rw [← hx]
   exact ave (fun _ _ => rfl) (hrel.env t y e)
 have hn0 : NR C ⟨σ.n, klE C.V σ.env, σ.heap⟩ := by
  simp only [ka, Bool.or_eq_true, List.isEmpty_iff] at hb
  rcases hb with hb | hb
  ·exact .inl hb
  ·refine .inr ⟨fun t _ => ?_, fun b f l hbW hl => ?_⟩
   ·unfold St.get
    simp only [akh]
    cases lk σ.env t with
    | none => rfl
    | some y => exact a2d
   ·have := List.all_eq_true.1 hb _ (lh hl)
    simp only [Bool.or_eq_true] at this
    rcases this with h | h
    ·exact absurd (by simpa using h) hbW
    ·exact h
 obtain ⟨σs, h0, ⟨τ, hK, e1, e2⟩, hN, hst0⟩ := yc hT hS.wr ops.toList 0 _ (by simp) hS.safe hn0 h
 have hst : ∀ i o, ops[i]? = some o → oa P G T C ops i o (σs i) (σs (i + 1)) := fun i o ho => hst0 i o (Nat.zero_le i) ho
 have e1 : Eqv (σs ops.size) τ := by simpa using e1
 have e2 : Eqv τ (σs ops.size) := by simpa using e2
 have hA : alp G C ops σs := by
  intro i x b hf hx hbW ⟨q, hq, hqb⟩
  have h1 := List.all_eq_true.1 hK.p i (by simpa using hf)
  rw [hx] at h1
  have h2 := Array.all_eq_true_iff_forall_mem.1 h1 q hq
  rw [ab7 (hS.lp i x hf hx) hst (hS.st i hf) hx e1 hq] at h2
  split at h2
  ·rename_i l hl
   have := List.all_eq_true.1 h2 b (aac hl hqb)
   rw [show C.W.contains b = true by simpa using hbW] at this
   cases this
  ·cases h2
 refine wp_region_any hm ?_
 have hdrew : Rel G w0 M S0 ⟨σ.n, klE C.V σ.env, σ.heap⟩ a { w with drawn := w.drawn + 1 } β S := hrel0.olds (fun _ _ => rfl) rfl rfl rfl (Nat.le_refl _) (fun _ _ h => h) (fun _ _ h => .inl h)
 have hnn : (σs 0).n = σ.n := by rw [h0]
 have hfd0 : FD (σs 0) := by
  intro b l hl
  rw [h0] at hl
  exact hrel0.fd b l hl
 rw [← h0] at hdrew
 refine ajs hT hst hS hA (fun m hm => hN m (Nat.zero_le m) (by simpa using hm)) (by rw [hnn]; exact hd) ?_ ops.size (Array.replicate ops.size false) a _ (σs 0) β S (by simp) ?_ ?_ hdrew ?_
 ·intro a' w' σ' β' S' hr he
  have he2 : Eqv σ' τ := he.trans e1
  have hfdn : FD (σs ops.size) := by
   have := m5 (Q := FD) (a := 0) (fun i o _ ho h => ay5 (hst i o ho) h) hfd0 ops.size (by omega)
   rwa [Nat.zero_add] at this
  have hfdt : FD τ := by
   intro b l hl
   have hc := e2.ct b
   rw [hl] at hc
   cases hb : lk (σs ops.size).heap b with
   | none => rw [hb] at hc; cases hc
   | some y =>
    obtain ⟨fr, l2⟩ := y
    rw [hb] at hc
    simp only [Option.map_some, Option.some.injEq] at hc
    cases fr with
    | true => rw [hc]; exact hfdn b l2 hb
    | false =>
     obtain ⟨l3, h3⟩ := e2.fl b l2 hb
     rw [hl] at h3; cases h3
  obtain ⟨S2, hrel2⟩ := hr.azb he2 hfdt
  exact hQ a' w' ⟨τ, β', S2, hK.q, hrel2, by rw [e2.n, apr hst (Nat.le_refl _), hnn]⟩
 ·unfold ot
  have : (List.range ops.size).filter (fun i => !(Array.replicate ops.size false).getD i false) = List.range ops.size := by
   refine List.filter_eq_self.2 fun i hi => ?_
   simp [Array.getD_eq_getD_getElem?, Array.getElem?_replicate]
   split <;> rfl
  rw [this]; simp
 ·intro k o hk
  exfalso
  simp [Array.getD_eq_getD_getElem?, Array.getElem?_replicate] at hk
  split at hk <;> cases hk
 ·have : (fun i => (Array.replicate ops.size false).getD i false = true) = fun _ => False := by
   funext i
   simp only [eq_iff_iff, iff_false]
   intro hk
   simp [Array.getD_eq_getD_getElem?, Array.getElem?_replicate] at hk
   split at hk <;> cases hk
  rw [this]
  exact cw.start hst (hN 0 (Nat.le_refl 0) (Nat.zero_le _))
end
end Dw
end Go.Ev
