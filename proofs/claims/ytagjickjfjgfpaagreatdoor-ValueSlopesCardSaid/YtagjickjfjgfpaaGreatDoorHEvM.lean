/- Contracts of the given functions, on data. Conditions stand in each theorem. -/
import Derived.Test.YtagjickjfjgfpaaGreatDoorHEvI
set_option linter.unusedSimpArgs false
set_option linter.unusedVariables false
namespace Go.Ev
open Go
section
variable {T : Tab} {P : Program} {G : bb}
theorem axq {ev : Operand → A} {d : Nat} {op : Op} {K : A → List A → Prop} (h : ug T ev d op K) :
  ∃ r l, K r l ∧ ∀ (ev' : Operand → A) (K' : A → List A → Prop), (∀ x ∈ op.operands, ev' x = ev x) → K' r l → ug T ev' d op K' := by
 unfold ug at h
 split at h
 ·split at h
  ·rename_i y hy
   refine ⟨_, _, h.k, fun ev' K' he h' => ?_⟩
   simp only [ug, hy]
   exact ⟨h.c, h'⟩
  ·exact h.elim
 ·rename_i e x
  refine ⟨_, _, h.k, fun ev' K' he h' => ?_⟩
  simp only [ug]
  rw [he x (by simp [Op.operands])]
  exact ⟨h.c, h'⟩
 ·rename_i t l c
  unfold bg at h
  split at h
  ·rename_i y hy
   split at h
   ·rename_i e hk
    split at h
    ·rename_i ye hye
     split at h
     ·rename_i kl il kc ic e1 e2
      obtain ⟨h1, h2, h3, row, hrow, h4⟩ := h
      refine ⟨_, _, h4, fun ev' K' he h' => ?_⟩
      simp only [ug, bg, hy, hk, hye]
      rw [he l (by simp [Op.operands]), he c (by simp [Op.operands]), e1, e2]
      exact ⟨h1, h2, h3, row, hrow, h'⟩
     ·exact h.elim
    ·exact h.elim
   ·exact h.elim
  ·exact h.elim
 ·rename_i t len parts
  unfold bg at h
  split at h
  ·rename_i y hy
   split at h
   ·rename_i e hk
    split at h
    ·rename_i ye hye
     obtain ⟨h1, h⟩ := h
     obtain ⟨c, h2, h3⟩ := yv h
     refine ⟨_, _, h2, fun ev' K' he h' => ?_⟩
     simp only [ug, bg, hy, hk, hye]
     refine ⟨h1, ?_⟩
     rw [xu fun p hp => he p.2 (by simp only [Op.operands]; simp; exact ⟨p.1, by simpa using hp⟩)]
     exact h3 _ h'
    ·exact h.elim
   ·exact h.elim
  ·exact h.elim
 ·rename_i t x lo hi m
  split at h
  ·rename_i n cells ex
   unfold bg at h
   split at h
   ·rename_i y hy
    split at h
    ·rename_i e hk
     split at h
     ·rename_i ye hye
      split at h
      ·rename_i hi'
       obtain ⟨kh, km, e1, e2, hK⟩ := h
       refine ⟨_, _, hK, fun ev' K' he h' => ?_⟩
       simp only [ug]
       rw [he x (by simp [Op.operands]), ex]
       simp only [bg, hy, hk, hye]
       exact ⟨kh, km, by rw [he _ (by simp [Op.operands]), e1], by rw [he _ (by simp [Op.operands]), e2], h'⟩
      ·exact h.elim
     ·exact h.elim
    ·exact h.elim
   ·exact h.elim
  ·exact h.elim
 ·exact h.elim
theorem ah4 {hp : Nat → Option (Bool × List A)} {a : A} {K : D → List Nat → Prop} (h : ij hp a K) :
  ∃ x bs, K x bs ∧ ((∀ b ∈ bs, ∃ (fr : Bool) (ds : List D), hp b = some (fr, ds.map A.d)) ∧ ∀ b ∈ bs, cv a b) ∧ ∀ (hp' : Nat → Option (Bool × List A)) (K' : D → List Nat → Prop), (∀ b, cv a b → ∀ fr l, hp b = some (fr, l) → ∃ fr', hp' b = some (fr', l)) → K' x bs → ij hp' a K' := by
 unfold ij at h
 split at h
 ·exact ⟨_, _, h, ⟨by simp, by simp⟩, fun hp' K' _ h' => h'⟩
 ·rename_i b o n sz
  split at h
  ·rename_i fr l hl
   obtain ⟨ds, hds, y, hy, hK⟩ := h
   refine ⟨_, _, hK, ⟨fun c hc => by simp at hc; subst hc; exact ⟨fr, ds, by rw [hl, hds]⟩, fun c hc => by simp at hc; subst hc; rfl⟩, fun hp' K' hh h' => ?_⟩
   obtain ⟨fr', hl'⟩ := hh b rfl fr l hl
   simp only [ij, hl']
   exact ⟨ds, hds, y, hy, h'⟩
  ·exact h.elim
 ·rename_i b o
  split at h
  ·rename_i fr l hl
   obtain ⟨ds, hds, hK⟩ := h
   refine ⟨_, _, hK, ⟨fun c hc => by simp at hc; subst hc; exact ⟨fr, ds, by rw [hl, hds]⟩, fun c hc => by simp at hc; subst hc; rfl⟩, fun hp' K' hh h' => ?_⟩
   obtain ⟨fr', hl'⟩ := hh b rfl fr l hl
   simp only [ij, hl']
   exact ⟨ds, hds, h'⟩
  ·exact h.elim
 ·exact ⟨_, _, h, ⟨by simp, by simp⟩, fun hp' K' _ h' => h'⟩
 ·exact h.elim
theorem z6 {hp : Nat → Option (Bool × List A)} : ∀ {as : List A} {K : List D → List Nat → Prop}, fc hp as K →
  ∃ xs bs, K xs bs ∧ ((∀ b ∈ bs, ∃ (fr : Bool) (ds : List D), hp b = some (fr, ds.map A.d)) ∧ ∀ b ∈ bs, ∃ a ∈ as, cv a b) ∧ ∀ (hp' : Nat → Option (Bool × List A)) (K' : List D → List Nat → Prop), (∀ a ∈ as, ∀ b, cv a b → ∀ fr l, hp b = some (fr, l) → ∃ fr', hp' b = some (fr', l)) → K' xs bs → fc hp' as K'
 | [], K, h => ⟨[], [], h, ⟨by simp, by simp⟩, fun _ _ _ h' => h'⟩
 | a :: as, K, h => by
  simp only [fc] at h
  obtain ⟨x, bs, h, hb1, t1⟩ := ah4 h
  obtain ⟨xs, bs2, h, hb2, t2⟩ := z6 h
  refine ⟨_, _, h, ⟨fun b hb => ?_, fun b hb => ?_⟩, fun hp' K' hh h' => ?_⟩
  ·rcases List.mem_append.1 hb with hb | hb
   ·exact hb1.1 b hb
   ·exact hb2.1 b hb
  ·rcases List.mem_append.1 hb with hb | hb
   ·exact ⟨a, by simp, hb1.2 b hb⟩
   ·obtain ⟨c, hc, hr⟩ := hb2.2 b hb
    exact ⟨c, by simp [hc], hr⟩
  ·simp only [fc]
   exact t1 hp' _ (hh a (by simp)) (t2 hp' _ (fun c hc => hh c (by simp [hc])) h')
theorem ll : ∀ {l : List A} {x : A} {b : Nat}, x ∈ l → cv x b → aai l b
 | y :: l, x, b, h, hr => by
  rcases List.mem_cons.1 h with rfl | h
  ·exact .inl hr
  ·exact .inr (ll h hr)
theorem avl {hp : Nat → Option (Bool × List A)} {a : A} {K : D → List Nat → Prop} (h : ma hp a K) :
  ∃ x bs, K x bs ∧ ((∀ b ∈ bs, ∃ (fr : Bool) (ds : List D), hp b = some (fr, ds.map A.d)) ∧ ∀ b ∈ bs, cv a b) ∧ ∀ (hp' : Nat → Option (Bool × List A)) (K' : D → List Nat → Prop), (∀ b, cv a b → ∀ fr l, hp b = some (fr, l) → ∃ fr', hp' b = some (fr', l)) → K' x bs → ma hp' a K' := by
 unfold ma at h
 split at h
 ·rename_i l
  obtain ⟨xs, bs, hK, hb, t⟩ := z6 h
  refine ⟨_, _, hK, ⟨hb.1, fun b hm => by obtain ⟨c, hc, hr⟩ := hb.2 b hm; simp only [cv]; exact ll hc hr⟩, fun hp' K' hh h' => ?_⟩
  simp only [ma]
  exact t hp' _ (fun x hx b hr => hh b (by simp only [cv]; exact ll hx hr)) h'
 ·rename_i f l
  obtain ⟨xs, bs, hK, hb, t⟩ := z6 h
  refine ⟨_, _, hK, ⟨hb.1, fun b hm => by obtain ⟨c, hc, hr⟩ := hb.2 b hm; simp only [cv]; exact ll hc hr⟩, fun hp' K' hh h' => ?_⟩
  simp only [ma]
  exact t hp' _ (fun x hx b hr => hh b (by simp only [cv]; exact ll hx hr)) h'
 ·rename_i hne hne2
  obtain ⟨x, bs, hK, hb, t⟩ := ah4 h
  refine ⟨x, bs, hK, hb, fun hp' K' hh h' => ?_⟩
  have := t hp' K' hh h'
  cases a <;> first | exact (hne _ rfl).elim | exact (hne2 _ _ rfl).elim | simpa only [ma] using this
theorem ach {hp : Nat → Option (Bool × List A)} : ∀ {as : List A} {K : List D → List Nat → Prop}, ng hp as K →
  ∃ xs bs, K xs bs ∧ ((∀ b ∈ bs, ∃ (fr : Bool) (ds : List D), hp b = some (fr, ds.map A.d)) ∧ ∀ b ∈ bs, ∃ a ∈ as, cv a b) ∧ ∀ (hp' : Nat → Option (Bool × List A)) (K' : List D → List Nat → Prop), (∀ a ∈ as, ∀ b, cv a b → ∀ fr l, hp b = some (fr, l) → ∃ fr', hp' b = some (fr', l)) → K' xs bs → ng hp' as K'
 | [], K, h => ⟨[], [], h, ⟨by simp, by simp⟩, fun _ _ _ h' => h'⟩
 | a :: as, K, h => by
  simp only [ng] at h
  obtain ⟨x, bs, h, hb1, t1⟩ := avl h
  obtain ⟨xs, bs2, h, hb2, t2⟩ := ach h
  refine ⟨_, _, h, ⟨fun b hb => ?_, fun b hb => ?_⟩, fun hp' K' hh h' => ?_⟩
  ·rcases List.mem_append.1 hb with hb | hb
   ·exact hb1.1 b hb
   ·exact hb2.1 b hb
  ·rcases List.mem_append.1 hb with hb | hb
   ·exact ⟨a, by simp, hb1.2 b hb⟩
   ·obtain ⟨c, hc, hr⟩ := hb2.2 b hb
    exact ⟨c, by simp [hc], hr⟩
  ·simp only [ng]
   exact t1 hp' _ (hh a (by simp)) (t2 hp' _ (fun c hc => hh c (by simp [hc])) h')
theorem atk {σ : St} {op : Op} {K : A → St → Prop} (h : sw P G σ op K) :
  ∃ (fresh : Bool) (r : D) (bs : List Nat), K (.d r) (if fresh then σ else σ.freeze bs) ∧ ((∀ b ∈ bs, ∃ (fr : Bool) (ds : List D), σ.hp b = some (fr, ds.map A.d)) ∧ ∀ b ∈ bs, ∃ x ∈ op.operands, cv (σ.ev G x) b) ∧ ∀ (σ' : St) (K' : A → St → Prop), (∀ x ∈ op.operands, σ'.ev G x = σ.ev G x) →
   (∀ x ∈ op.operands, ∀ b, cv (σ.ev G x) b → ∀ fr l, σ.hp b = some (fr, l) → ∃ fr', σ'.hp b = some (fr', l)) → K' (.d r) (if fresh then σ' else σ'.freeze bs) → sw P G σ' op K' := by
 unfold sw at h
 split at h
 ·rename_i c
  obtain ⟨callee, args, at_⟩ := c
  simp only at h
  split at h
  ·rename_i f
   obtain ⟨xs, bs, h, hb, t⟩ := ach h
   obtain ⟨fresh, r, hs, hK⟩ := h
   have hmem : ∀ x ∈ args.toList, x ∈ (Op.call ⟨.value (.func f), args, at_⟩).operands := fun x hx => by
    simp only [Op.operands, Call.operands]; simp; exact .inr (by simpa using hx)
   refine ⟨fresh, r, bs, hK, ⟨hb.1, fun b hm => ?_⟩, fun σ' K' he hh h' => ?_⟩
   ·obtain ⟨a, ha, hr⟩ := hb.2 b hm
    obtain ⟨x, hx, rfl⟩ := List.mem_map.1 ha
    exact ⟨x, hmem x hx, hr⟩
   simp only [sw]
   have hargs : args.toList.map (σ'.ev G) = args.toList.map (σ.ev G) := List.map_congr_left fun x hx => he x (hmem x hx)
   rw [hargs]
   refine t σ'.hp _ (fun a ha b hr fr l hl => ?_) ⟨fresh, r, hs, h'⟩
   obtain ⟨x, hx, rfl⟩ := List.mem_map.1 ha
   exact hh x (hmem x hx) b hr fr l hl
  ·rename_i x hnf
   split at h
   ·rename_i f cs e
    obtain ⟨xs, bs, h, hb, t⟩ := ach h
    obtain ⟨fresh, r, hs, hK⟩ := h
    have hmem : ∀ y ∈ args.toList, y ∈ (Op.call ⟨.value x, args, at_⟩).operands := fun y hy => by
     simp only [Op.operands, Call.operands]; simp; exact .inr (by simpa using hy)
    have hmx : x ∈ (Op.call ⟨.value x, args, at_⟩).operands := by
     simp only [Op.operands, Call.operands]; simp
    refine ⟨fresh, r, bs, hK, ⟨hb.1, fun b hm => ?_⟩, fun σ' K' he hh h' => ?_⟩
    ·obtain ⟨a, ha, hr⟩ := hb.2 b hm
     rcases List.mem_append.1 ha with ha | ha
     ·obtain ⟨y, hy, rfl⟩ := List.mem_map.1 ha
      exact ⟨y, hmem y hy, hr⟩
     ·exact ⟨x, hmx, by rw [e]; simp only [cv]; exact ll ha hr⟩
    have hargs : args.toList.map (σ'.ev G) = args.toList.map (σ.ev G) := List.map_congr_left fun x hx => he x (hmem x hx)
    have e' : σ'.ev G x = .fn f cs := by rw [he x hmx, e]
    unfold sw
    cases x with
    | func g => exact (hnf g rfl).elim
    | _ =>
     simp only [e']
     rw [hargs]
     refine t σ'.hp _ (fun a ha b hr fr l hl => ?_) ⟨fresh, r, hs, h'⟩
     rcases List.mem_append.1 ha with ha | ha
     ·obtain ⟨y, hy, rfl⟩ := List.mem_map.1 ha
      exact hh y (hmem y hy) b hr fr l hl
     ·exact hh _ hmx b (by rw [e]; simp only [cv]; exact ll ha hr) fr l hl
   ·exact h.elim
  ·exact h.elim
 ·exact h.elim
structure Eqv (σ' σ : St) : Prop where
 n : σ'.n = σ.n
 get : ∀ t, σ'.get t = σ.get t
 ct : ∀ b, (lk σ'.heap b).map (·.2) = (lk σ.heap b).map (·.2)
 fl : ∀ b l, lk σ.heap b = some (false, l) → ∃ l', lk σ'.heap b = some (false, l')
theorem Eqv.refl (σ : St) : Eqv σ σ := ⟨rfl, fun _ => rfl, fun _ => rfl, fun _ l h => ⟨l, h⟩⟩
theorem Eqv.ev {σ' σ : St} (h : Eqv σ' σ) (x : Operand) : σ'.ev G x = σ.ev G x := by
 cases x with
 | tmp t => exact h.get t
 | _ => rfl
theorem Eqv.hp {σ' σ : St} (h : Eqv σ' σ) {b : Nat} {fr : Bool} {l : List A} (hl : σ.hp b = some (fr, l)) : ∃ fr', σ'.hp b = some (fr', l) := by
 have := h.ct b
 have hl' : lk σ.heap b = some (fr, l) := hl
 rw [hl'] at this
 simp only [Option.map_some, Option.map_eq_some_iff] at this
 obtain ⟨y, hy, e⟩ := this
 obtain ⟨fr', l'⟩ := y
 exact ⟨fr', by rw [← e]; exact hy⟩
theorem Eqv.hpf {σ' σ : St} (h : Eqv σ' σ) {b : Nat} {l : List A} (hl : σ.hp b = some (false, l)) : σ'.hp b = some (false, l) := by
 obtain ⟨l', h1⟩ := h.fl b l hl
 obtain ⟨fr', h2⟩ := h.hp hl
 have : lk σ'.heap b = some (fr', l) := h2
 rw [h1] at this
 simp only [Option.some.injEq, Prod.mk.injEq] at this
 show lk σ'.heap b = some (false, l)
 rw [h1, this.2]
theorem Eqv.hpn {σ' σ : St} (h : Eqv σ' σ) {b : Nat} (hl : σ.hp b = none) : σ'.hp b = none := by
 have := h.ct b
 have hl' : lk σ.heap b = none := hl
 rw [hl'] at this
 simpa [St.hp] using this
theorem Eqv.wr {σ' σ : St} (h : Eqv σ' σ) (b : Nat) (l : List A) : Eqv (σ'.wr b l) (σ.wr b l) := by
 refine ⟨h.n, h.get, fun c => ?_, fun c l' hl' => ?_⟩
 ·simp only [St.wr, ei]
  split
  ·rename_i e
   subst e
   have := h.ct c
   cases h1 : lk σ.heap c <;> cases h2 : lk σ'.heap c <;> simp_all
  ·exact h.ct c
 ·simp only [St.wr, ei] at hl' ⊢
  split at hl'
  ·rename_i e
   subst e
   rw [if_pos rfl]
   simp only [Option.map_eq_some_iff] at hl' ⊢
   obtain ⟨y, hy, e⟩ := hl'
   obtain ⟨fr, l2⟩ := y
   simp only [Prod.mk.injEq] at e
   obtain ⟨e1, e2⟩ := e
   subst e1
   obtain ⟨l3, h3⟩ := h.fl c l2 hy
   exact ⟨l, (false, l3), h3, rfl⟩
  ·rename_i e
   rw [if_neg e]
   exact h.fl c l' hl'
theorem af5 (σ : St) (b t : Nat) : (σ.kill b).get t = (σ.get t).kill b := by
 simp only [St.get, St.kill, aet]
 cases lk σ.env t <;> rfl
theorem Eqv.kill {σ' σ : St} (h : Eqv σ' σ) (b : Nat) : Eqv (σ'.kill b) (σ.kill b) := by
 refine ⟨h.n, fun t => by rw [af5, af5, h.get], fun c => ?_, fun c l hl => ?_⟩
 ·simp only [St.kill, dh, Option.map_map]
  have := h.ct c
  cases h1 : lk σ.heap c <;> cases h2 : lk σ'.heap c <;> simp_all
 ·simp only [St.kill, dh, Option.map_eq_some_iff] at hl ⊢
  obtain ⟨y, hy, e⟩ := hl
  obtain ⟨fr, l2⟩ := y
  simp only [Prod.mk.injEq] at e
  obtain ⟨e1, e2⟩ := e
  subst e1
  obtain ⟨l3, h3⟩ := h.fl c l2 hy
  exact ⟨_, (false, l3), h3, rfl⟩
theorem Eqv.new {σ' σ : St} (h : Eqv σ' σ) (d : Nat) (l : List A) : Eqv (σ'.new d l) (σ.new d l) := by
 refine ⟨h.n, h.get, fun c => ?_, fun c l' hl => ?_⟩
 ·simp only [St.new, lk]
  split
  ·rfl
  ·exact h.ct c
 ·simp only [St.new, lk] at hl ⊢
  split at hl
  ·rename_i e; rw [if_pos e]; exact ⟨l, rfl⟩
  ·rename_i e; rw [if_neg e]; exact h.fl c l' hl
theorem bc (σ : St) (d t : Nat) (r : A) : (σ.put (some d) r).get t = if d = t then r else σ.get t := by
 simp only [St.get, St.put, lk]
 split <;> rfl
theorem Eqv.put {σ' σ : St} (h : Eqv σ' σ) (d : Option Nat) (r : A) : Eqv (σ'.put d r) (σ.put d r) := by
 cases d with
 | none => exact h
 | some d => exact ⟨h.n, fun t => by rw [bc, bc, h.get], h.ct, h.fl⟩
theorem Eqv.trans {a b c : St} (h : Eqv a b) (k : Eqv b c) : Eqv a c :=
 ⟨h.n.trans k.n, fun t => (h.get t).trans (k.get t), fun b => (h.ct b).trans (k.ct b), fun b l hl => let ⟨l', h1⟩ := k.fl b l hl; h.fl b l' h1⟩
theorem xl (σ : St) (bs : List Nat) : (σ.freeze bs).n = σ.n := by cases bs <;> rfl
theorem ao5 (σ : St) (bs : List Nat) : (σ.freeze bs).env = σ.env := by cases bs <;> rfl
theorem c8 (σ : St) (bs : List Nat) (b : Nat) : lk (σ.freeze bs).heap b = (lk σ.heap b).map fun x => (x.1 || bs.contains b, x.2) := by
 cases bs with
 | nil => simp [St.freeze]
 | cons b0 bs => exact acu _ _ _
theorem nj (σ : St) (bs : List Nat) (t : Nat) : (σ.freeze bs).get t = σ.get t := by simp only [St.get, ao5]
theorem Eqv.freeze {σ' σ : St} (h : Eqv σ' σ) (bs : List Nat) : Eqv (σ'.freeze bs) (σ.freeze bs) := by
 refine ⟨by rw [xl, xl, h.n], fun t => by rw [nj, nj, h.get], fun b => ?_, fun b l hl => ?_⟩
 ·rw [c8, c8, Option.map_map, Option.map_map]
  have := h.ct b
  cases h1 : lk σ.heap b <;> cases h2 : lk σ'.heap b <;> simp_all
 ·rw [c8] at hl ⊢
  simp only [Option.map_eq_some_iff] at hl ⊢
  obtain ⟨y, hy, e⟩ := hl
  obtain ⟨fr, l2⟩ := y
  simp only [Prod.mk.injEq, Bool.or_eq_false_iff] at e
  obtain ⟨⟨e1, e2⟩, e3⟩ := e
  subst e1
  obtain ⟨l3, h3⟩ := h.fl b l2 hy
  exact ⟨l3, (false, l3), h3, by simp only [e2, Bool.or_self]⟩
theorem aj1 {hp : Nat → Option (Bool × List A)} {sz : Nat} {x : A} {K : Nat → List D → Prop} (h : ew hp sz x K) :
  ∃ n l, K n l ∧ ∀ (hp' : Nat → Option (Bool × List A)) (K' : Nat → List D → Prop), (∀ b fr l, hp b = some (fr, l) → ∃ fr', hp' b = some (fr', l)) → K' n l → ew hp' sz x K' := by
 unfold ew at h
 split at h
 ·exact ⟨_, _, h.k, fun _ _ _ h' => ⟨h.c, h'⟩⟩
 ·exact ⟨_, _, h, fun _ _ _ h' => h'⟩
 ·rename_i b o n sz'
  split at h
  ·rename_i fr l hl
   obtain ⟨ds, hds, h1, h2, hK⟩ := h
   refine ⟨_, _, hK, fun hp' K' hh h' => ?_⟩
   obtain ⟨fr', hl'⟩ := hh b fr l hl
   simp only [ew, hl']
   exact ⟨ds, hds, h1, h2, h'⟩
  ·exact h.elim
 ·exact h.elim
def FD (σ : St) : Prop := ∀ b l, lk σ.heap b = some (true, l) → ∃ ds : List D, l = ds.map A.d
theorem a13 {σ : St} {d : Option Nat} {op : Op} {K : A → St → Prop} (h : uv T G σ d op K) :
  ∃ r τ, K r τ ∧ (τ.n = σ.n ∧ (∀ b l, lk σ.heap b = some (true, l) → ∃ l', lk τ.heap b = some (true, l')) ∧ (∀ b, lk σ.heap b ≠ none → lk τ.heap b ≠ none) ∧ (FD σ → FD τ)) ∧ ∀ (σ' : St) (K' : A → St → Prop), Eqv σ' σ → (∀ τ', Eqv τ' τ → K' r τ') → uv T G σ' d op K' := by
 have hwr : ∀ (σ : St) (b : Nat) (l l0 : List A), lk σ.heap b = some (false, l0) → (σ.wr b l).n = σ.n ∧ (∀ c l1, lk σ.heap c = some (true, l1) → ∃ l', lk (σ.wr b l).heap c = some (true, l')) ∧ (∀ c, lk σ.heap c ≠ none → lk (σ.wr b l).heap c ≠ none) ∧ (FD σ → FD (σ.wr b l)) := by
  intro σ b l l0 hlive
  refine ⟨rfl, fun c l1 h => ?_, fun c h => ?_, fun hfd c l1 h => ?_⟩
  ·simp only [St.wr, ei]
   split
   ·rw [h]; exact ⟨l, rfl⟩
   ·exact ⟨l1, h⟩
  ·simp only [St.wr, ei]
   split
   ·intro e; exact h (by simpa using e)
   ·exact h
  ·simp only [St.wr, ei] at h
   split at h
   ·rename_i e
    subst e
    rw [hlive] at h
    cases h
   ·exact hfd c l1 h
 have hki : ∀ (σ : St) (b : Nat), (σ.kill b).n = σ.n ∧ (∀ c l1, lk σ.heap c = some (true, l1) → ∃ l', lk (σ.kill b).heap c = some (true, l')) ∧ (∀ c, lk σ.heap c ≠ none → lk (σ.kill b).heap c ≠ none) ∧ (FD σ → FD (σ.kill b)) := by
  intro σ b
  refine ⟨rfl, fun c l1 h => ?_, fun c h => ?_, fun hfd c l1 h => ?_⟩
  ·simp only [St.kill, dh, h]; exact ⟨_, rfl⟩
  ·simp only [St.kill, dh]; intro e; exact h (by simpa using e)
  ·simp only [St.kill, dh, Option.map_eq_some_iff] at h
   obtain ⟨y, hy, e⟩ := h
   obtain ⟨fr, l2⟩ := y
   cases e
   obtain ⟨ds, rfl⟩ := hfd c l2 hy
   exact ⟨ds, by simp⟩
 unfold uv at h
 split at h
 ·rename_i t a x
  split at h
  ·rename_i b o ea
   split at h
   ·rename_i l y hl hy
    obtain ⟨h1, h2, h3, h4, row, hrow, hK⟩ := h
    refine ⟨_, _, hK, hwr _ _ _ l hl, fun σ' K' he h' => ?_⟩
    simp only [uv]
    rw [he.ev a, ea]
    simp only [he.hpf hl, hy, he.ev x]
    exact ⟨h1, h2, h3, h4, row, hrow, h' _ (he.wr b _)⟩
   ·exact h.elim
  ·exact h.elim
 ·rename_i c
  split at h
  ·rename_i t t2 s x d' hcal hat har
   unfold bg at h
   split at h
   ·rename_i y hy
    split at h
    ·rename_i e hk
     split at h
     ·rename_i ye hye
      obtain ⟨h1, h⟩ := h
      obtain ⟨n, l, h, t⟩ := aj1 h
      obtain ⟨h2, h⟩ := h
      have key : ∃ r τ, K r τ ∧ (τ.n = σ.n ∧ (∀ b l, lk σ.heap b = some (true, l) → ∃ l', lk τ.heap b = some (true, l')) ∧ (∀ b, lk σ.heap b ≠ none → lk τ.heap b ≠ none) ∧ (FD σ → FD τ)) ∧ ∀ (σ' : St) (K' : A → St → Prop), Eqv σ' σ → (∀ τ', Eqv τ' τ → K' r τ') → (match σ'.ev G s with
        | .d .nil => Cd (n * ye.bytes ≤ 70368744177664) (Cd ((σ'.hp d').isNone = true) (EqE (l.map A.d) fun row => K' (.own d' 0 n ye.size) (σ'.new d' row)))
        | .own b o n' sz => match σ'.hp b with
         | some (false, l') => Cd (am4 b o = 0 ∧ sz = ye.size) (Cd (l'.length = n' * sz) (Cd ((n' + n) * ye.bytes ≤ 70368744177664) (DsE l' fun _ => EqE (l' ++ l.map A.d) fun row => K' (.own b 0 (n' + n) sz) ((σ'.kill b).wr b row))))
         | _ => False
        | _ => False) := by
       split at h
       ·rename_i es
        obtain ⟨h3, h4, row, hrow, hK⟩ := h
        have hdn : lk σ.heap d' = none := by simpa [St.hp] using h4
        refine ⟨_, _, hK, ⟨rfl, fun c l1 hc => ?_, fun c hc => ?_, fun hfd c l1 hc => ?_⟩, fun σ' K' he h' => ?_⟩
        ·simp only [St.new, lk]
         rw [if_neg (fun e => by rw [e, hc] at hdn; cases hdn)]
         exact ⟨l1, hc⟩
        ·simp only [St.new, lk]
         split
         ·simp
         ·exact hc
        ·simp only [St.new, lk] at hc
         split at hc
         ·cases hc
         ·exact hfd c l1 hc
        rw [he.ev s, es]
        have : σ.hp d' = none := by simpa using h4
        exact ⟨h3, by rw [he.hpn this]; rfl, row, hrow, h' _ (he.new d' _)⟩
       ·rename_i b o n' sz es
        split at h
        ·rename_i l' hl'
         obtain ⟨h3, h4, h5, ds, hds, row, hrow, hK⟩ := h
         have hkl : lk (σ.kill b).heap b = some (false, A.gl b l') := by
          have : lk σ.heap b = some (false, l') := hl'
          simp only [St.kill, dh, this]; rfl
         refine ⟨_, _, hK, ⟨rfl, fun c l1 hc => ?_, fun c hc => ?_, fun hfd => (hwr _ _ _ _ hkl).2.2.2 ((hki σ b).2.2.2 hfd)⟩, fun σ' K' he h' => ?_⟩
         ·obtain ⟨l2, h6⟩ := (hki σ b).2.1 c l1 hc
          exact (hwr _ _ _ _ hkl).2.1 c l2 h6
         ·exact (hwr _ _ _ _ hkl).2.2.1 c ((hki σ b).2.2.1 c hc)
         rw [he.ev s, es]
         simp only [he.hpf hl']
         exact ⟨h3, h4, h5, ds, hds, row, hrow, h' _ ((he.kill b).wr b _)⟩
        ·exact h.elim
       ·exact h.elim
      obtain ⟨r, τ, hK, hmono, hk'⟩ := key
      refine ⟨r, τ, hK, hmono, fun σ' K' he h' => ?_⟩
      simp only [uv, hcal, hat, har, bg, hy, hk, hye]
      refine ⟨h1, ?_⟩
      rw [he.ev x]
      exact t σ'.hp _ (fun b fr l hl => he.hp hl) ⟨h2, hk' σ' K' he h'⟩
     ·exact h.elim
    ·exact h.elim
   ·exact h.elim
  ·exact h.elim
 ·exact h.elim
end
end Go.Ev

namespace Go.Ev
open Go
section
variable {T : Tab} {P : Program} {G : bb}
def a8 (ops : Array Oper) (o : Oper) (σ : St) : Prop :=
 o.guard = none ∨ ∃ j want g, o.guard = some (j, want) ∧ ake ops j = some g ∧ σ.get g = .d (.bool want)
def mh (ops : Array Oper) (o : Oper) (σ : St) : Prop :=
 ∃ j want g, o.guard = some (j, want) ∧ ake ops j = some g ∧ (σ.get g = .d (.bool (!want)) ∨ σ.get g = .d (.tup []))
def Reach (G : bb) (o : Oper) (σ σ' : St) : Prop := ∀ x ∈ o.op.operands, ∀ b, cv (σ.ev G x) b → ∀ fr l, σ.hp b = some (fr, l) → ∃ fr', σ'.hp b = some (fr', l)
def aff (G : bb) (o : Oper) (σ σ' : St) : Prop := ∀ x ∈ o.op.operands, σ'.ev G x = σ.ev G x
def kr (o : Oper) : Bool := match o.op with
 | .move _ | .assign _ | .extract _ _ | .binOp _ _ _ _ _ | .unOp _ _ _ | .convert _ _ _ => true
 | .call c => match c.callee with
  | .builtin .len => true
  | _ => false
 | _ => false
def ej (o : Oper) : Bool := match o.op, o.dst with
 | .store _ _ _, none => true
 | _, _ => false
theorem gm {o : Oper} (h : kr o = true) : kindOf o.op = 0 := by
 obtain ⟨dst, op, type, pos, after, guard⟩ := o
 unfold kr at h
 cases op with
 | move _ => rfl
 | assign _ => rfl
 | extract _ _ => rfl
 | binOp _ _ _ _ _ => rfl
 | unOp _ _ _ => rfl
 | convert _ _ _ => rfl
 | call c =>
  obtain ⟨callee, args, at_⟩ := c
  simp only at h
  split at h
  ·rfl
  ·cases h
 | _ => cases h
theorem c9 {o : Oper} (h : ej o = true) : kindOf o.op = 2 ∧ o.dst = none ∧ ∃ t a x, o.op = .store t a x := by
 unfold ej at h
 split at h
 ·rename_i t a x h1 h2
  exact ⟨by rw [h1]; rfl, h2, t, a, x, h1⟩
 ·cases h
theorem xn {o : Oper} (h : kr o = true) : ej o = false := by
 cases hs : ej o with
 | false => rfl
 | true => have h1 := gm h; rw [(c9 hs).1] at h1; cases h1
theorem aqz {ev : Operand → A} {hp hp' : Nat → Option (Bool × List A)} {o : Oper} (h : kr o = true) (K : A → Prop) (hv : ft T ev hp o.op K) : ft T ev hp' o.op K := by
 obtain ⟨dst, op, type, pos, after, guard⟩ := o
 unfold kr at h
 cases op with
 | move _ => exact hv
 | assign _ => exact hv
 | extract _ _ => exact hv
 | binOp _ _ _ _ _ => exact hv
 | unOp _ _ _ => exact hv
 | convert _ _ _ => exact hv
 | call c =>
  obtain ⟨callee, args, at_⟩ := c
  simp only at h
  split at h
  ·exact hv
  ·cases h
 | _ => cases h
def stb (G : bb) (o : Oper) (σ : St) (b : Nat) : Prop := match o.op with
 | .store _ a _ => cv (σ.ev G a) b
 | _ => False
def ab3 (G : bb) (o : Oper) (σ : St) (b : Nat) : Prop := ∃ x ∈ o.op.operands, cv (σ.ev G x) b
inductive uy (P : Program) (G : bb) (T : Tab) (ops : Array Oper) (o : Oper) (σ τ : St) : Prop where
 | skip (hg : mh ops o σ) (h : τ = σ.put o.dst (.d (.tup [])))
 | val (hg : a8 ops o σ) (hk : kindOf o.op = 0) (hl : kr o = false) (r : A) (h : τ = σ.put o.dst r) (t : ∀ (σ' : St) (K' : St → Prop), aff G o σ σ' → Reach G o σ σ' → K' (σ'.put o.dst r) → ni P G T σ' o K')
 | lt (hg : a8 ops o σ) (hl : kr o = true) (r : A) (h : τ = σ.put o.dst r) (t : ∀ (σ' : St) (K' : St → Prop), aff G o σ σ' → K' (σ'.put o.dst r) → ni P G T σ' o K')
 | st (hg : a8 ops o σ) (hs : ej o = true) (b : Nat) (l row : List A) (hb : lk σ.heap b = some (false, l)) (h : τ = σ.wr b row) (t : ∀ (σ' : St) (K' : St → Prop), aff G o σ σ' → lk σ'.heap b = some (false, l) → K' (σ'.wr b row) → ni P G T σ' o K') (hr : stb G o σ b)
 | new (hg : a8 ops o σ) (hk : kindOf o.op = 1) (d : Nat) (hd : o.dst = some d) (r : A) (l : List A) (hf : lk σ.heap d = none) (h : τ = (σ.new d l).put (some d) r)
   (t : ∀ (σ' : St) (K' : St → Prop), aff G o σ σ' → lk σ'.heap d = none → K' ((σ'.new d l).put (some d) r) → ni P G T σ' o K')
 | call (hg : a8 ops o σ) (hk : kindOf o.op = 3) (fresh : Bool) (r : A) (bs : List Nat) (hb : ∀ b ∈ bs, ∃ (fr : Bool) (ds : List D), lk σ.heap b = some (fr, ds.map A.d)) (hbr : ∀ b ∈ bs, ab3 G o σ b) (h : τ = (if fresh then σ else σ.freeze bs).put o.dst r)
   (t : ∀ (σ' : St) (K' : St → Prop), aff G o σ σ' → Reach G o σ σ' → K' ((if fresh then σ' else σ'.freeze bs).put o.dst r) → ni P G T σ' o K')
 | wr (hg : a8 ops o σ) (hk : kindOf o.op = 2) (hs : ej o = false) (hn : τ.n = σ.n) (mono : ∀ b l, lk σ.heap b = some (true, l) → ∃ l', lk τ.heap b = some (true, l')) (keys : ∀ b, lk σ.heap b ≠ none → lk τ.heap b ≠ none) (fd : FD σ → FD τ)
   (t : ∀ (σ' : St) (K' : St → Prop), Eqv σ' σ → (∀ τ', Eqv τ' τ → K' τ') → ni P G T σ' o K')
theorem ain (op : Op) : kindOf op = 0 ∨ kindOf op = 1 ∨ kindOf op = 2 ∨ kindOf op = 3 := by
 unfold kindOf
 split <;> first | simp | (split <;> simp)
theorem aic {ops : Array Oper} {o : Oper} {σ : St} {K : St → Prop} (hs : x9 T o.op = true) (hg : a8 ops o σ) (h : ni P G T σ o K) : ∃ τ, K τ ∧ uy P G T ops o σ τ := by
 rcases ain o.op with hk | hk | hk | hk
 ·simp only [ni, hk] at h
  obtain ⟨r, h1, h2⟩ := au7 hs _ h
  rw [St.bq] at h1
  cases hl : kr o with
  | true =>
   refine ⟨_, h1, .lt hg hl r rfl fun σ' K' he h' => ?_⟩
   simp only [ni, hk]
   have he2 : aff G o σ ⟨σ'.n, σ'.env, σ.heap⟩ := fun x hx => by
    have h3 : St.ev G ⟨σ'.n, σ'.env, σ.heap⟩ x = σ'.ev G x := by cases x <;> rfl
    rw [h3]; exact he x hx
   have h4 := aoa (ev' := St.ev G ⟨σ'.n, σ'.env, σ.heap⟩) (hp' := σ.hp) he2 (fun x hx b hr fr l hl => ⟨fr, hl⟩) (h2 (fun r => σ'.kt o.dst r K') (by rw [St.bq]; exact h'))
   have h5 : St.ev G ⟨σ'.n, σ'.env, σ.heap⟩ = σ'.ev G := by funext x; cases x <;> rfl
   rw [h5] at h4
   exact aqz hl _ h4
  | false =>
  refine ⟨_, h1, .val hg hk hl r rfl fun σ' K' he hh h' => ?_⟩
  simp only [ni, hk]
  exact aoa he hh (h2 _ (by rw [St.bq]; exact h'))
 ·simp only [ni, hk] at h
  split at h
  ·rename_i d hd
   obtain ⟨hf, h⟩ := h
   obtain ⟨r, l, h1, h2⟩ := axq h
   rw [St.bq] at h1
   refine ⟨_, h1, .new hg hk d hd r l (by simpa [St.hp] using hf) rfl fun σ' K' he hn h' => ?_⟩
   simp only [ni, hk, hd]
   exact ⟨by simp [St.hp, hn], h2 _ _ he (by rw [St.bq]; exact h')⟩
  ·exact h.elim
 ·simp only [ni, hk] at h
  cases hst : ej o with
  | true =>
   obtain ⟨_, hdst, t, a, x, hop⟩ := c9 hst
   rw [hop, hdst] at h
   simp only [uv] at h
   split at h
   ·rename_i b o' ha
    split at h
    ·rename_i l y hl hy
     obtain ⟨c1, c2, c3, c4, row, hrow, hK⟩ := h
     refine ⟨_, hK, .st hg hst b l row hl rfl (fun σ' K' he hb h' => ?_) (by unfold stb; rw [hop]; simp only; rw [ha]; simp [cv])⟩
     have ea : σ'.ev G a = σ.ev G a := he a (by rw [hop]; simp [Op.operands])
     have ex : σ'.ev G x = σ.ev G x := he x (by rw [hop]; simp [Op.operands])
     have hp' : σ'.hp b = some (false, l) := hb
     have hk2 : kindOf (Op.store t a x) = 2 := rfl
     simp only [ni, hop, hk2, hdst, uv, ea, ex, ha, hp', hy]
     exact ⟨c1, c2, c3, c4, row, hrow, h'⟩
    ·exact h.elim
   ·exact h.elim
  | false =>
  obtain ⟨r, τ, h1, ⟨hn, hm, hky, hfd⟩, h2⟩ := a13 h
  rw [St.bq] at h1
  refine ⟨_, h1, .wr hg hk hst (by cases o.dst <;> exact hn) (fun b l hl => by cases o.dst <;> exact hm b l hl) (fun b hb => by cases o.dst <;> exact hky b hb) (fun h => by cases o.dst <;> exact hfd h) fun σ' K' he h' => ?_⟩
  simp only [ni, hk]
  exact h2 σ' _ he fun τ' he' => by rw [St.bq]; exact h' _ (he'.put _ _)
 ·simp only [ni, hk] at h
  obtain ⟨fresh, r, bs, h1, hb, h2⟩ := atk h
  rw [St.bq] at h1
  refine ⟨_, h1, .call hg hk fresh _ bs hb.1 hb.2 rfl fun σ' K' he hh h' => ?_⟩
  simp only [ni, hk]
  exact h2 σ' _ he hh (by rw [St.bq]; exact h')
theorem al8 {σ : St} {g : Nat} {t : Bool} (hg : σ.get g = .d (.bool t)) : Eqv (σ.put (some g) (.d (.bool t))) σ ∧ Eqv σ (σ.put (some g) (.d (.bool t))) := by
 have hget : ∀ u, (σ.put (some g) (.d (.bool t))).get u = σ.get u := by
  intro u
  rw [bc]
  split
  ·rename_i e; subst e; exact hg.symm
  ·rfl
 exact ⟨⟨rfl, hget, fun _ => rfl, fun _ l h => ⟨l, h⟩⟩, ⟨rfl, fun u => (hget u).symm, fun _ => rfl, fun _ l h => ⟨l, h⟩⟩⟩
theorem uy.congr {ops : Array Oper} {o : Oper} {σ σ0 τ : St} (h : uy P G T ops o σ τ) (he : Eqv σ σ0) (he' : Eqv σ0 σ) (hh : σ.heap = σ0.heap) : ∃ τ', uy P G T ops o σ0 τ' ∧ Eqv τ τ' ∧ Eqv τ' τ ∧ τ.heap = τ'.heap := by
 have hyes : a8 ops o σ → a8 ops o σ0 := by
  rintro (h | ⟨j, want, g, h1, h2, h3⟩)
  ·exact .inl h
  ·exact .inr ⟨j, want, g, h1, h2, by rw [← he.get]; exact h3⟩
 have hno : mh ops o σ → mh ops o σ0 := by
  rintro ⟨j, want, g, h1, h2, h3⟩
  exact ⟨j, want, g, h1, h2, by rw [← he.get]; exact h3⟩
 have hsame : ∀ σ', aff G o σ0 σ' → aff G o σ σ' := fun σ' h x hx => (h x hx).trans (he'.ev x)
 have hreach : ∀ σ', Reach G o σ0 σ' → Reach G o σ σ' := fun σ' h x hx b hr fr l hl => by
  refine h x hx b (by rw [he'.ev x]; exact hr) fr l ?_
  show lk σ0.heap b = _
  rw [← hh]; exact hl
 have hput : ∀ (a b : St) (d : Option Nat) (r : A), a.heap = b.heap → (a.put d r).heap = (b.put d r).heap := fun a b d r h => by cases d <;> exact h
 cases h with
 | skip hg h =>
  subst h
  exact ⟨_, .skip (hno hg) rfl, he.put _ _, he'.put _ _, hput _ _ _ _ hh⟩
 | lt hg hl r h t =>
  subst h
  exact ⟨_, .lt (hyes hg) hl r rfl (fun σ' K' h1 h3 => t σ' K' (hsame σ' h1) h3), he.put _ _, he'.put _ _, hput _ _ _ _ hh⟩
 | st hg hs b l row hb h t hr =>
  subst h
  refine ⟨_, .st (hyes hg) hs b l row (by rw [← hh]; exact hb) rfl (fun σ' K' h1 h2 h3 => t σ' K' (hsame σ' h1) h2 h3) (by
   unfold stb at hr ⊢
   split at hr
   ·rename_i a x _; rw [he'.ev a]; exact hr
   ·exact hr.elim), ?_, ?_, by simp [St.wr, hh]⟩
  ·exact he.wr b row
  ·exact he'.wr b row
 | val hg hk hl r h t =>
  subst h
  exact ⟨_, .val (hyes hg) hk hl r rfl (fun σ' K' h1 h2 h3 => t σ' K' (hsame σ' h1) (hreach σ' h2) h3), he.put _ _, he'.put _ _, hput _ _ _ _ hh⟩
 | new hg hk d hd r l hf h t =>
  subst h
  exact ⟨_, .new (hyes hg) hk d hd r l (by rw [← hh]; exact hf) rfl (fun σ' K' h1 h2 h3 => t σ' K' (hsame σ' h1) h2 h3), (he.new d l).put _ _, (he'.new d l).put _ _, hput _ _ _ _ (by simp [St.new, hh])⟩
 | call hg hk fresh r bs hb hbr h t =>
  subst h
  refine ⟨_, .call (hyes hg) hk fresh r bs (fun b h => by rw [← hh]; exact hb b h) (fun b h => by obtain ⟨x, hx, hr⟩ := hbr b h; exact ⟨x, hx, by rw [he'.ev x]; exact hr⟩) rfl (fun σ' K' h1 h2 h3 => t σ' K' (hsame σ' h1) (hreach σ' h2) h3), ?_, ?_, ?_⟩
  ·cases fresh
   ·exact (he.freeze bs).put _ _
   ·exact he.put _ _
  ·cases fresh
   ·exact (he'.freeze bs).put _ _
   ·exact he'.put _ _
  ·refine hput _ _ _ _ ?_
   cases fresh
   ·cases bs <;> simp [St.freeze, hh]
   ·exact hh
 | wr hg hk hs hn mono keys fd t =>
  exact ⟨τ, .wr (hyes hg) hk hs (hn.trans he.n) (fun b l hl => mono b l (by rw [hh]; exact hl)) (fun b hb => keys b (by rw [hh]; exact hb)) (fun h => fd fun b l hl => h b l (by rw [← hh]; exact hl)) (fun σ' K' h1 h2 => t σ' K' (h1.trans he') h2), Eqv.refl _, Eqv.refl _, rfl⟩
theorem zm {ops : Array Oper} {σ : St} {o : Oper} {yes no : St → Prop} (h : pg ops σ o yes no) :
  ∃ σ', Eqv σ' σ ∧ Eqv σ σ' ∧ σ'.heap = σ.heap ∧ ((a8 ops o σ' ∧ yes σ') ∨ (mh ops o σ' ∧ no σ')) := by
 unfold pg at h
 split at h
 ·rename_i hg
  exact ⟨σ, Eqv.refl _, Eqv.refl _, rfl, .inl ⟨.inl hg, h⟩⟩
 ·rename_i j want hg
  split at h
  ·exact h.elim
  ·rename_i g hgt
   split at h
   ·rename_i t ht
    obtain ⟨e1, e2⟩ := al8 ht
    cases want <;> cases t
    ·exact ⟨_, e1, e2, rfl, .inl ⟨.inr ⟨j, _, g, hg, hgt, by rw [bc, if_pos rfl]⟩, by have := h.ff rfl; rwa [St.bq] at this⟩⟩
    ·exact ⟨_, e1, e2, rfl, .inr ⟨⟨j, _, g, hg, hgt, .inl (by rw [bc, if_pos rfl]; rfl)⟩, by have := h.tt rfl; rwa [St.bq] at this⟩⟩
    ·exact ⟨_, e1, e2, rfl, .inr ⟨⟨j, _, g, hg, hgt, .inl (by rw [bc, if_pos rfl]; rfl)⟩, by have := h.ff rfl; rwa [St.bq] at this⟩⟩
    ·exact ⟨_, e1, e2, rfl, .inl ⟨.inr ⟨j, _, g, hg, hgt, by rw [bc, if_pos rfl]⟩, by have := h.tt rfl; rwa [St.bq] at this⟩⟩
   ·rename_i ht
    exact ⟨σ, Eqv.refl _, Eqv.refl _, rfl, .inr ⟨⟨j, want, g, hg, hgt, .inr ht⟩, h⟩⟩
   ·exact h.elim
theorem yc {ops : Array Oper} {Q : St → Prop} : ∀ (rest : List Oper) (σ : St), (∀ o ∈ rest, x9 T o.op = true) → zo P G T ops rest σ Q →
  ∃ σs : Nat → St, σs 0 = σ ∧ (∃ τ, Q τ ∧ Eqv (σs rest.length) τ ∧ Eqv τ (σs rest.length)) ∧ ∀ i o, rest[i]? = some o → ∃ τ, uy P G T ops o (σs i) τ ∧ Eqv τ (σs (i + 1)) ∧ Eqv (σs (i + 1)) τ ∧ (σs (i + 1)).heap = τ.heap
 | [], σ, _, h => ⟨fun _ => σ, rfl, ⟨σ, h, Eqv.refl _, Eqv.refl _⟩, fun i o h => by simp at h⟩
 | o :: rest, σ, hs, h => by
  simp only [zo] at h
  obtain ⟨σg, e1, e2, hh, hcase⟩ := zm h
  have key : ∃ τ, uy P G T ops o σg τ ∧ zo P G T ops rest τ Q := by
   rcases hcase with ⟨hg, hy⟩ | ⟨hg, hn⟩
   ·obtain ⟨τ, h1, h2⟩ := aic (hs o (by simp)) hg hy
    exact ⟨τ, h2, h1⟩
   ·rw [St.bq] at hn
    exact ⟨_, .skip hg rfl, hn⟩
  obtain ⟨τ, hstep, hrest⟩ := key
  obtain ⟨τ', hstep', e3, e4, hh'⟩ := hstep.congr e1 e2 hh
  obtain ⟨σs, h0, hQ, hst⟩ := yc rest τ (fun o ho => hs o (by simp [ho])) hrest
  refine ⟨fun i => match i with | 0 => σ | i + 1 => σs i, rfl, hQ, fun i o' hi => ?_⟩
  cases i with
  | zero =>
   simp at hi
   subst hi
   simp only [h0]
   exact ⟨τ', hstep', e4, e3, hh'⟩
  | succ i => exact hst i o' (by simpa using hi)
def bk (o : Oper) : List Nat := (o.after.toList.filter (Region.binds .any)).map (·.on)
inductive Anc (ops : Array Oper) : Nat → Nat → Prop where
 | one {j i : Nat} {o : Oper} (h : ops[j]? = some o) (hi : i ∈ bk o) : Anc ops j i
 | more {j p i : Nat} {o : Oper} (h : ops[j]? = some o) (hp : p ∈ bk o) (ha : Anc ops p i) : Anc ops j i
def agf (acc : List Nat) (ps : List Nat) : Nat := ps.foldl (fun s p => s ||| 2 ^ p ||| acc.getD p 0) 0
def ais : List Oper → List Nat → List Nat
 | [], acc => acc
 | o :: os, acc => ais os (acc ++ [agf acc (bk o)])
def free (rf : Nat → Nat → Bool) (i : Nat) (x : Oper) (j : Nat) (y : Oper) : Bool := ej x && (kr y || ((kindOf y.op == 0 || kindOf y.op == 3) && rf i j))
def jv (rf : Nat → Nat → Bool) (ops : Array Oper) (i : Nat) (x : Oper) (j : Nat) (y : Oper) : Bool := !(x.apart ops y) || (kindOf x.op == 2 && !(free rf i x j y)) || (kindOf y.op == 2 && !(free rf j y i x))
theorem kg {rf : Nat → Nat → Bool} {ops : Array Oper} {i j : Nat} {x y : Oper} (h : kindOf x.op = 2) (hs : ej x = false ∨ (kindOf y.op ≠ 0 ∧ kindOf y.op ≠ 3) ∨ (kr y = false ∧ rf i j = false)) : jv rf ops i x j y = true ∧ jv rf ops j y i x = true := by
 unfold jv free
 rcases hs with hs | hs | ⟨hs, hs'⟩
 ·simp [h, hs]
 ·have hl : kr y = false := by cases hl : kr y with | false => rfl | true => exact absurd (gm hl) hs.1
  simp [h, hs.1, hs.2, hl]
 ·simp [h, hs, hs']
def ags (rf : Nat → Nat → Bool) (ops : Array Oper) (ms : List Nat) : List Oper → Nat → Bool
  | [], _ => true
  | o :: os, j => ((bk o).all (· < j)) && ((List.range j).all fun i => match ops[i]? with | some x => !(jv rf ops i x j o) || (ms.getD j 0).testBit i | none => true) && ags rf ops ms os (j + 1)
def akx (T : Tab) (rf : Nat → Nat → Bool) (ops : Array Oper) : Bool := ags rf ops (ais ops.toList []) ops.toList 0 && ops.toList.all fun o => x9 T o.op
def apy (T : Tab) (ops : Array Oper) : Bool := ags (fun _ _ => false) ops (ais ops.toList []) ops.toList 0 && ops.toList.all fun o => x9 T o.op
theorem agh {ops : Array Oper} {acc : List Nat} {o : Oper} {j : Nat} (ho : ops[j]? = some o) (hacc : ∀ p i, (acc.getD p 0).testBit i = true → Anc ops p i) : ∀ (ps : List Nat) (s i : Nat), (∀ p ∈ ps, p ∈ bk o) → (s.testBit i = true → Anc ops j i) →
  (ps.foldl (fun s p => s ||| 2 ^ p ||| acc.getD p 0) s).testBit i = true → Anc ops j i
 | [], s, i, _, hs, h => hs h
 | p :: ps, s, i, hps, hs, h => by
  simp only [List.foldl_cons] at h
  refine agh ho hacc ps _ i (fun q hq => hps q (by simp [hq])) (fun h' => ?_) h
  simp only [Nat.testBit_or, Bool.or_eq_true] at h'
  rcases h' with (h' | h') | h'
  ·exact hs h'
  ·rw [Nat.testBit_two_pow] at h'
   have : p = i := by simpa using h'
   subst this
   exact .one ho (hps p (by simp))
  ·exact .more ho (hps p (by simp)) (hacc p i h')
theorem acx {ops : Array Oper} : ∀ (os : List Oper) (acc : List Nat), ops.toList.drop acc.length = os → (∀ p i, (acc.getD p 0).testBit i = true → Anc ops p i) → ∀ p i, ((ais os acc).getD p 0).testBit i = true → Anc ops p i
 | [], acc, _, hacc, p, i, h => hacc p i h
 | o :: os, acc, hd, hacc, p, i, h => by
  simp only [ais] at h
  have ho : ops[acc.length]? = some o := by
   have : (ops.toList.drop acc.length)[0]? = some o := by rw [hd]; rfl
   simpa using this
  refine acx os _ ?_ ?_ p i h
  ·have : (ops.toList.drop acc.length).drop 1 = os := by rw [hd]; rfl
   rw [List.drop_drop] at this
   simpa using this
  ·intro q k hq
   by_cases hlt : q < acc.length
   ·have : (acc ++ [agf acc (bk o)]).getD q 0 = acc.getD q 0 := by
     simp [List.getElem?_append, hlt]
    rw [this] at hq
    exact hacc q k hq
   ·by_cases heq : q = acc.length
    ·subst heq
     have : (acc ++ [agf acc (bk o)]).getD acc.length 0 = agf acc (bk o) := by simp
     rw [this] at hq
     exact agh ho hacc _ 0 k (fun _ h => h) (by simp) hq
    ·have : (acc ++ [agf acc (bk o)]).getD q 0 = 0 := by
      rw [List.getD_eq_getElem?_getD, List.getElem?_eq_none (by simp; omega)]; rfl
     rw [this] at hq
     simp at hq
theorem ad2 {rf : Nat → Nat → Bool} {ops : Array Oper} {ms : List Nat} (hms : ∀ p i, (ms.getD p 0).testBit i = true → Anc ops p i) : ∀ (os : List Oper) (j : Nat), ops.toList.drop j = os → ags rf ops ms os j = true →
  ∀ k o, j ≤ k → ops[k]? = some o → (∀ p ∈ bk o, p < k) ∧ ∀ i x, i < k → ops[i]? = some x → jv rf ops i x k o = true → Anc ops k i
 | [], j, hd, _, k, o, hk, ho => by
  have : ops.toList.length ≤ j := List.drop_eq_nil_iff.1 hd
  have h2 : k < ops.size := by
   rcases Nat.lt_or_ge k ops.size with h | h
   ·exact h
   ·simp [Array.getElem?_eq_none h] at ho
  simp at this
  omega
 | o0 :: os, j, hd, h, k, o, hk, ho => by
  simp only [ags, Bool.and_eq_true] at h
  obtain ⟨⟨h1, h2⟩, h3⟩ := h
  by_cases hkj : k = j
  ·subst hkj
   have hoj : ops[k]? = some o0 := by
    have : (ops.toList.drop k)[0]? = some o0 := by rw [hd]; rfl
    simpa using this
   rw [hoj] at ho; cases ho
   refine ⟨fun p hp => by simpa using List.all_eq_true.1 h1 p hp, fun i x hi hx hc => ?_⟩
   have := List.all_eq_true.1 h2 i (by simpa using hi)
   rw [hx] at this
   simp only [hc, Bool.not_true, Bool.false_or] at this
   exact hms k i this
  ·refine ad2 hms os (j + 1) ?_ h3 k o (by omega) ho
   have : (ops.toList.drop j).drop 1 = os := by rw [hd]; rfl
   rwa [List.drop_drop] at this
theorem aow {rf : Nat → Nat → Bool} {ops : Array Oper} {i j : Nat} {x y : Oper} (h : jv rf ops i x j y = true) : jv rf ops j y i x = true := by
 unfold jv at h ⊢
 have hs : ∀ a b : Oper, a.apart ops b = true → b.apart ops a = true := by
  intro a b hab
  obtain ⟨h1, h2, h3⟩ := Oper.apart_spec hab
  unfold Oper.apart
  simp only [Bool.and_eq_true]
  constructor
  ·cases hb : b.dst with
   | none => rfl
   | some d =>
    simp only [Bool.and_eq_true, Bool.not_eq_true', bne_iff_ne]
    exact ⟨by simpa using h3 d hb, fun e => h2 d e hb⟩
  ·cases ha : a.dst with
   | none => rfl
   | some d => simpa using h1 d ha
 have hxy : x.apart ops y = y.apart ops x := by
  cases h1 : x.apart ops y <;> cases h2 : y.apart ops x
  ·rfl
  ·rw [hs _ _ h2] at h1; cases h1
  ·rw [hs _ _ h1] at h2; cases h2
  ·rfl
 rw [hxy] at h
 simp only [Bool.or_eq_true] at h ⊢
 rcases h with (h | h) | h
 ·exact .inl (.inl h)
 ·exact .inr h
 ·exact .inl (.inr h)
end
end Go.Ev
