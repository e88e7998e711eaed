/- Contracts of the given functions, on data. Conditions stand in each theorem. -/
import Derived.Test.YtagjickjfjgfpaaGreatDoorGEvI
set_option linter.unusedSimpArgs false
set_option linter.unusedVariables false
namespace Go.Ev
open Go
section
variable {T : Tab} {P : Program} {G : Glob}

theorem boundless {α : Type} {p : Prop} (h : p) (x : α) : p := h

theorem newEv_tr {ev : Operand → A} {d : Nat} {op : Op} {K : A → List A → Prop} (h : newEv T ev d op K) :
    ∃ r l, K r l ∧ ∀ (ev' : Operand → A) (K' : A → List A → Prop), (∀ x ∈ op.operands, ev' x = ev x) → K' r l → newEv T ev' d op K' := by
  unfold newEv at h
  split at h
  · split at h
    · rename_i y hy
      refine ⟨_, _, h.k, fun ev' K' he h' => ?_⟩
      simp only [newEv, hy]
      exact ⟨h.c, h'⟩
    · exact h.elim
  · rename_i e x
    refine ⟨_, _, h.k, fun ev' K' he h' => ?_⟩
    simp only [newEv]
    rw [he x (by simp [Op.operands])]
    exact ⟨h.c, h'⟩
  · rename_i t l c
    unfold tySlice at h
    split at h
    · rename_i y hy
      split at h
      · rename_i e hk
        split at h
        · rename_i ye hye
          split at h
          · rename_i kl il kc ic e1 e2
            obtain ⟨h1, h2, h3, row, hrow, h4⟩ := h
            refine ⟨_, _, h4, fun ev' K' he h' => ?_⟩
            simp only [newEv, tySlice, hy, hk, hye]
            rw [he l (by simp [Op.operands]), he c (by simp [Op.operands]), e1, e2]
            exact ⟨h1, h2, h3, row, hrow, h'⟩
          · exact h.elim
        · exact h.elim
      · exact h.elim
    · exact h.elim
  · rename_i t len parts
    unfold tySlice at h
    split at h
    · rename_i y hy
      split at h
      · rename_i e hk
        split at h
        · rename_i ye hye
          obtain ⟨h1, h⟩ := h
          obtain ⟨c, h2, h3⟩ := fillA_det h
          refine ⟨_, _, h2, fun ev' K' he h' => ?_⟩
          simp only [newEv, tySlice, hy, hk, hye]
          refine ⟨h1, ?_⟩
          rw [parts_congr fun p hp => he p.2 (by simp only [Op.operands]; simp; exact ⟨p.1, by simpa using hp⟩)]
          exact h3 _ h'
        · exact h.elim
      · exact h.elim
    · exact h.elim
  · rename_i t x lo hi m
    split at h
    · rename_i n cells ex
      unfold tySlice at h
      split at h
      · rename_i y hy
        split at h
        · rename_i e hk
          split at h
          · rename_i ye hye
            split at h
            · rename_i hi'
              obtain ⟨kh, km, e1, e2, hK⟩ := h
              refine ⟨_, _, hK, fun ev' K' he h' => ?_⟩
              simp only [newEv]
              rw [he x (by simp [Op.operands]), ex]
              simp only [tySlice, hy, hk, hye]
              exact ⟨kh, km, by rw [he _ (by simp [Op.operands]), e1], by rw [he _ (by simp [Op.operands]), e2], h'⟩
            · exact h.elim
          · exact h.elim
        · exact h.elim
      · exact h.elim
    · exact h.elim
  · exact h.elim

theorem argEv1_tr {hp : Nat → Option (Bool × List A)} {a : A} {K : D → List Nat → Prop} (h : argEv1 hp a K) :
    ∃ x bs, K x bs ∧ ((∀ b ∈ bs, ∃ (fr : Bool) (ds : List D), hp b = some (fr, ds.map A.d)) ∧ ∀ b ∈ bs, refs1 a b) ∧ ∀ (hp' : Nat → Option (Bool × List A)) (K' : D → List Nat → Prop), (∀ b, refs1 a b → ∀ fr l, hp b = some (fr, l) → ∃ fr', hp' b = some (fr', l)) → K' x bs → argEv1 hp' a K' := by
  unfold argEv1 at h
  split at h
  · exact ⟨_, _, h, ⟨by simp, by simp⟩, fun hp' K' _ h' => h'⟩
  · rename_i b o n sz
    split at h
    · rename_i fr l hl
      obtain ⟨ds, hds, y, hy, hK⟩ := h
      refine ⟨_, _, hK, ⟨fun c hc => by simp at hc; subst hc; exact ⟨fr, ds, by rw [hl, hds]⟩, fun c hc => by simp at hc; subst hc; rfl⟩, fun hp' K' hh h' => ?_⟩
      obtain ⟨fr', hl'⟩ := hh b rfl fr l hl
      simp only [argEv1, hl']
      exact ⟨ds, hds, y, hy, h'⟩
    · exact h.elim
  · rename_i b o
    split at h
    · rename_i fr l hl
      obtain ⟨ds, hds, hK⟩ := h
      refine ⟨_, _, hK, ⟨fun c hc => by simp at hc; subst hc; exact ⟨fr, ds, by rw [hl, hds]⟩, fun c hc => by simp at hc; subst hc; rfl⟩, fun hp' K' hh h' => ?_⟩
      obtain ⟨fr', hl'⟩ := hh b rfl fr l hl
      simp only [argEv1, hl']
      exact ⟨ds, hds, h'⟩
    · exact h.elim
  · exact ⟨_, _, h, ⟨by simp, by simp⟩, fun hp' K' _ h' => h'⟩
  · exact h.elim

theorem argsEv1_tr {hp : Nat → Option (Bool × List A)} : ∀ {as : List A} {K : List D → List Nat → Prop}, argsEv1 hp as K →
    ∃ xs bs, K xs bs ∧ ((∀ b ∈ bs, ∃ (fr : Bool) (ds : List D), hp b = some (fr, ds.map A.d)) ∧ ∀ b ∈ bs, ∃ a ∈ as, refs1 a b) ∧ ∀ (hp' : Nat → Option (Bool × List A)) (K' : List D → List Nat → Prop), (∀ a ∈ as, ∀ b, refs1 a b → ∀ fr l, hp b = some (fr, l) → ∃ fr', hp' b = some (fr', l)) → K' xs bs → argsEv1 hp' as K'
  | [], K, h => ⟨[], [], h, ⟨by simp, by simp⟩, fun _ _ _ h' => h'⟩
  | a :: as, K, h => by
    simp only [argsEv1] at h
    obtain ⟨x, bs, h, hb1, t1⟩ := argEv1_tr h
    obtain ⟨xs, bs2, h, hb2, t2⟩ := argsEv1_tr h
    refine ⟨_, _, h, ⟨fun b hb => ?_, fun b hb => ?_⟩, fun hp' K' hh h' => ?_⟩
    · rcases List.mem_append.1 hb with hb | hb
      · exact hb1.1 b hb
      · exact hb2.1 b hb
    · rcases List.mem_append.1 hb with hb | hb
      · exact ⟨a, by simp, hb1.2 b hb⟩
      · obtain ⟨c, hc, hr⟩ := hb2.2 b hb
        exact ⟨c, by simp [hc], hr⟩
    · simp only [argsEv1]
      exact t1 hp' _ (hh a (by simp)) (t2 hp' _ (fun c hc => hh c (by simp [hc])) h')

theorem refs1s_mem : ∀ {l : List A} {x : A} {b : Nat}, x ∈ l → refs1 x b → refs1s l b
  | y :: l, x, b, h, hr => by
    rcases List.mem_cons.1 h with rfl | h
    · exact .inl hr
    · exact .inr (refs1s_mem h hr)
theorem argEv_tr {hp : Nat → Option (Bool × List A)} {a : A} {K : D → List Nat → Prop} (h : argEv hp a K) :
    ∃ x bs, K x bs ∧ ((∀ b ∈ bs, ∃ (fr : Bool) (ds : List D), hp b = some (fr, ds.map A.d)) ∧ ∀ b ∈ bs, refs1 a b) ∧ ∀ (hp' : Nat → Option (Bool × List A)) (K' : D → List Nat → Prop), (∀ b, refs1 a b → ∀ fr l, hp b = some (fr, l) → ∃ fr', hp' b = some (fr', l)) → K' x bs → argEv hp' a K' := by
  unfold argEv at h
  split at h
  · rename_i l
    obtain ⟨xs, bs, hK, hb, t⟩ := argsEv1_tr h
    refine ⟨_, _, hK, ⟨hb.1, fun b hm => by obtain ⟨c, hc, hr⟩ := hb.2 b hm; simp only [refs1]; exact refs1s_mem hc hr⟩, fun hp' K' hh h' => ?_⟩
    simp only [argEv]
    exact t hp' _ (fun x hx b hr => hh b (by simp only [refs1]; exact refs1s_mem hx hr)) h'
  · rename_i f l
    obtain ⟨xs, bs, hK, hb, t⟩ := argsEv1_tr h
    refine ⟨_, _, hK, ⟨hb.1, fun b hm => by obtain ⟨c, hc, hr⟩ := hb.2 b hm; simp only [refs1]; exact refs1s_mem hc hr⟩, fun hp' K' hh h' => ?_⟩
    simp only [argEv]
    exact t hp' _ (fun x hx b hr => hh b (by simp only [refs1]; exact refs1s_mem hx hr)) h'
  · rename_i hne hne2
    obtain ⟨x, bs, hK, hb, t⟩ := argEv1_tr h
    refine ⟨x, bs, hK, hb, fun hp' K' hh h' => ?_⟩
    have := t hp' K' hh h'
    cases a <;> first | exact (hne _ rfl).elim | exact (hne2 _ _ rfl).elim | simpa only [argEv] using this

theorem argsEv_tr {hp : Nat → Option (Bool × List A)} : ∀ {as : List A} {K : List D → List Nat → Prop}, argsEv hp as K →
    ∃ xs bs, K xs bs ∧ ((∀ b ∈ bs, ∃ (fr : Bool) (ds : List D), hp b = some (fr, ds.map A.d)) ∧ ∀ b ∈ bs, ∃ a ∈ as, refs1 a b) ∧ ∀ (hp' : Nat → Option (Bool × List A)) (K' : List D → List Nat → Prop), (∀ a ∈ as, ∀ b, refs1 a b → ∀ fr l, hp b = some (fr, l) → ∃ fr', hp' b = some (fr', l)) → K' xs bs → argsEv hp' as K'
  | [], K, h => ⟨[], [], h, ⟨by simp, by simp⟩, fun _ _ _ h' => h'⟩
  | a :: as, K, h => by
    simp only [argsEv] at h
    obtain ⟨x, bs, h, hb1, t1⟩ := argEv_tr h
    obtain ⟨xs, bs2, h, hb2, t2⟩ := argsEv_tr h
    refine ⟨_, _, h, ⟨fun b hb => ?_, fun b hb => ?_⟩, fun hp' K' hh h' => ?_⟩
    · rcases List.mem_append.1 hb with hb | hb
      · exact hb1.1 b hb
      · exact hb2.1 b hb
    · rcases List.mem_append.1 hb with hb | hb
      · exact ⟨a, by simp, hb1.2 b hb⟩
      · obtain ⟨c, hc, hr⟩ := hb2.2 b hb
        exact ⟨c, by simp [hc], hr⟩
    · simp only [argsEv]
      exact t1 hp' _ (hh a (by simp)) (t2 hp' _ (fun c hc => hh c (by simp [hc])) h')

theorem callEv_tr {σ : St} {op : Op} {K : A → St → Prop} (h : callEv P G σ op K) :
    ∃ (fresh : Bool) (r : D) (bs : List Nat), K (.d r) (if fresh then σ else σ.freeze bs) ∧ ((∀ b ∈ bs, ∃ (fr : Bool) (ds : List D), σ.hp b = some (fr, ds.map A.d)) ∧ ∀ b ∈ bs, ∃ x ∈ op.operands, refs1 (σ.ev G x) b) ∧ ∀ (σ' : St) (K' : A → St → Prop), (∀ x ∈ op.operands, σ'.ev G x = σ.ev G x) →
      (∀ x ∈ op.operands, ∀ b, refs1 (σ.ev G x) b → ∀ fr l, σ.hp b = some (fr, l) → ∃ fr', σ'.hp b = some (fr', l)) → K' (.d r) (if fresh then σ' else σ'.freeze bs) → callEv P G σ' op K' := by
  unfold callEv at h
  split at h
  · rename_i c
    obtain ⟨callee, args, at_⟩ := c
    simp only at h
    split at h
    · rename_i f
      obtain ⟨xs, bs, h, hb, t⟩ := argsEv_tr h
      obtain ⟨fresh, r, hs, hK⟩ := h
      have hmem : ∀ x ∈ args.toList, x ∈ (Op.call ⟨.value (.func f), args, at_⟩).operands := fun x hx => by
        simp only [Op.operands, Call.operands]; simp; exact .inr (by simpa using hx)
      refine ⟨fresh, r, bs, hK, ⟨hb.1, fun b hm => ?_⟩, fun σ' K' he hh h' => ?_⟩
      · obtain ⟨a, ha, hr⟩ := hb.2 b hm
        obtain ⟨x, hx, rfl⟩ := List.mem_map.1 ha
        exact ⟨x, hmem x hx, hr⟩
      simp only [callEv]
      have hargs : args.toList.map (σ'.ev G) = args.toList.map (σ.ev G) := List.map_congr_left fun x hx => he x (hmem x hx)
      rw [hargs]
      refine t σ'.hp _ (fun a ha b hr fr l hl => ?_) ⟨fresh, r, hs, h'⟩
      obtain ⟨x, hx, rfl⟩ := List.mem_map.1 ha
      exact hh x (hmem x hx) b hr fr l hl
    · rename_i x hnf
      split at h
      · rename_i f cs e
        obtain ⟨xs, bs, h, hb, t⟩ := argsEv_tr h
        obtain ⟨fresh, r, hs, hK⟩ := h
        have hmem : ∀ y ∈ args.toList, y ∈ (Op.call ⟨.value x, args, at_⟩).operands := fun y hy => by
          simp only [Op.operands, Call.operands]; simp; exact .inr (by simpa using hy)
        have hmx : x ∈ (Op.call ⟨.value x, args, at_⟩).operands := by
          simp only [Op.operands, Call.operands]; simp
        refine ⟨fresh, r, bs, hK, ⟨hb.1, fun b hm => ?_⟩, fun σ' K' he hh h' => ?_⟩
        · obtain ⟨a, ha, hr⟩ := hb.2 b hm
          rcases List.mem_append.1 ha with ha | ha
          · obtain ⟨y, hy, rfl⟩ := List.mem_map.1 ha
            exact ⟨y, hmem y hy, hr⟩
          · exact ⟨x, hmx, by rw [e]; simp only [refs1]; exact refs1s_mem ha hr⟩
        have hargs : args.toList.map (σ'.ev G) = args.toList.map (σ.ev G) := List.map_congr_left fun x hx => he x (hmem x hx)
        have e' : σ'.ev G x = .fn f cs := by rw [he x hmx, e]
        unfold callEv
        cases x with
        | func g => exact (hnf g rfl).elim
        | _ =>
          simp only [e']
          rw [hargs]
          refine t σ'.hp _ (fun a ha b hr fr l hl => ?_) ⟨fresh, r, hs, h'⟩
          rcases List.mem_append.1 ha with ha | ha
          · obtain ⟨y, hy, rfl⟩ := List.mem_map.1 ha
            exact hh y (hmem y hy) b hr fr l hl
          · exact hh _ hmx b (by rw [e]; simp only [refs1]; exact refs1s_mem ha hr) fr l hl
      · exact h.elim
    · exact h.elim
  · exact h.elim

/-- Two states that are one, but for what has been shared out. -/
structure Eqv (σ' σ : St) : Prop where
  n : σ'.n = σ.n
  get : ∀ t, σ'.get t = σ.get t
  ct : ∀ b, (lk σ'.heap b).map (·.2) = (lk σ.heap b).map (·.2)
  fl : ∀ b l, lk σ.heap b = some (false, l) → ∃ l', lk σ'.heap b = some (false, l')

theorem Eqv.refl (σ : St) : Eqv σ σ := ⟨rfl, fun _ => rfl, fun _ => rfl, fun _ l h => ⟨l, h⟩⟩
theorem Eqv.ev {σ' σ : St} (h : Eqv σ' σ) (x : Operand) : σ'.ev G x = σ.ev G x := by
  cases x with
  | tmp t => exact h.get t
  | _ => rfl
theorem Eqv.hp {σ' σ : St} (h : Eqv σ' σ) {b : Nat} {fr : Bool} {l : List A} (hl : σ.hp b = some (fr, l)) : ∃ fr', σ'.hp b = some (fr', l) := by
  have := h.ct b
  have hl' : lk σ.heap b = some (fr, l) := hl
  rw [hl'] at this
  simp only [Option.map_some, Option.map_eq_some_iff] at this
  obtain ⟨y, hy, e⟩ := this
  obtain ⟨fr', l'⟩ := y
  exact ⟨fr', by rw [← e]; exact hy⟩
theorem Eqv.hpf {σ' σ : St} (h : Eqv σ' σ) {b : Nat} {l : List A} (hl : σ.hp b = some (false, l)) : σ'.hp b = some (false, l) := by
  obtain ⟨l', h1⟩ := h.fl b l hl
  obtain ⟨fr', h2⟩ := h.hp hl
  have : lk σ'.heap b = some (fr', l) := h2
  rw [h1] at this
  simp only [Option.some.injEq, Prod.mk.injEq] at this
  show lk σ'.heap b = some (false, l)
  rw [h1, this.2]
theorem Eqv.hpn {σ' σ : St} (h : Eqv σ' σ) {b : Nat} (hl : σ.hp b = none) : σ'.hp b = none := by
  have := h.ct b
  have hl' : lk σ.heap b = none := hl
  rw [hl'] at this
  simpa [St.hp] using this

theorem Eqv.wr {σ' σ : St} (h : Eqv σ' σ) (b : Nat) (l : List A) : Eqv (σ'.wr b l) (σ.wr b l) := by
  refine ⟨h.n, h.get, fun c => ?_, fun c l' hl' => ?_⟩
  · simp only [St.wr, lk_hset]
    split
    · rename_i e
      subst e
      have := h.ct c
      cases h1 : lk σ.heap c <;> cases h2 : lk σ'.heap c <;> simp_all
    · exact h.ct c
  · simp only [St.wr, lk_hset] at hl' ⊢
    split at hl'
    · rename_i e
      subst e
      rw [if_pos rfl]
      simp only [Option.map_eq_some_iff] at hl' ⊢
      obtain ⟨y, hy, e⟩ := hl'
      obtain ⟨fr, l2⟩ := y
      simp only [Prod.mk.injEq] at e
      obtain ⟨e1, e2⟩ := e
      subst e1
      obtain ⟨l3, h3⟩ := h.fl c l2 hy
      exact ⟨l, (false, l3), h3, rfl⟩
    · rename_i e
      rw [if_neg e]
      exact h.fl c l' hl'
theorem get_kill (σ : St) (b t : Nat) : (σ.kill b).get t = (σ.get t).kill b := by
  simp only [St.get, St.kill, lk_mapA]
  cases lk σ.env t <;> rfl
theorem Eqv.kill {σ' σ : St} (h : Eqv σ' σ) (b : Nat) : Eqv (σ'.kill b) (σ.kill b) := by
  refine ⟨h.n, fun t => by rw [get_kill, get_kill, h.get], fun c => ?_, fun c l hl => ?_⟩
  · simp only [St.kill, lk_mapH, Option.map_map]
    have := h.ct c
    cases h1 : lk σ.heap c <;> cases h2 : lk σ'.heap c <;> simp_all
  · simp only [St.kill, lk_mapH, Option.map_eq_some_iff] at hl ⊢
    obtain ⟨y, hy, e⟩ := hl
    obtain ⟨fr, l2⟩ := y
    simp only [Prod.mk.injEq] at e
    obtain ⟨e1, e2⟩ := e
    subst e1
    obtain ⟨l3, h3⟩ := h.fl c l2 hy
    exact ⟨_, (false, l3), h3, rfl⟩
theorem Eqv.new {σ' σ : St} (h : Eqv σ' σ) (d : Nat) (l : List A) : Eqv (σ'.new d l) (σ.new d l) := by
  refine ⟨h.n, h.get, fun c => ?_, fun c l' hl => ?_⟩
  · simp only [St.new, lk]
    split
    · rfl
    · exact h.ct c
  · simp only [St.new, lk] at hl ⊢
    split at hl
    · rename_i e; rw [if_pos e]; exact ⟨l, rfl⟩
    · rename_i e; rw [if_neg e]; exact h.fl c l' hl
theorem get_put (σ : St) (d t : Nat) (r : A) : (σ.put (some d) r).get t = if d = t then r else σ.get t := by
  simp only [St.get, St.put, lk]
  split <;> rfl
theorem Eqv.put {σ' σ : St} (h : Eqv σ' σ) (d : Option Nat) (r : A) : Eqv (σ'.put d r) (σ.put d r) := by
  cases d with
  | none => exact h
  | some d => exact ⟨h.n, fun t => by rw [get_put, get_put, h.get], h.ct, h.fl⟩

theorem Eqv.trans {a b c : St} (h : Eqv a b) (k : Eqv b c) : Eqv a c :=
  ⟨h.n.trans k.n, fun t => (h.get t).trans (k.get t), fun b => (h.ct b).trans (k.ct b), fun b l hl => let ⟨l', h1⟩ := k.fl b l hl; h.fl b l' h1⟩
theorem freeze_n (σ : St) (bs : List Nat) : (σ.freeze bs).n = σ.n := by cases bs <;> rfl
theorem freeze_env (σ : St) (bs : List Nat) : (σ.freeze bs).env = σ.env := by cases bs <;> rfl
theorem freeze_lk (σ : St) (bs : List Nat) (b : Nat) : lk (σ.freeze bs).heap b = (lk σ.heap b).map fun x => (x.1 || bs.contains b, x.2) := by
  cases bs with
  | nil => simp [St.freeze]
  | cons b0 bs => exact lk_freeze _ _ _
theorem freeze_get (σ : St) (bs : List Nat) (t : Nat) : (σ.freeze bs).get t = σ.get t := by simp only [St.get, freeze_env]
theorem Eqv.freeze {σ' σ : St} (h : Eqv σ' σ) (bs : List Nat) : Eqv (σ'.freeze bs) (σ.freeze bs) := by
  refine ⟨by rw [freeze_n, freeze_n, h.n], fun t => by rw [freeze_get, freeze_get, h.get], fun b => ?_, fun b l hl => ?_⟩
  · rw [freeze_lk, freeze_lk, Option.map_map, Option.map_map]
    have := h.ct b
    cases h1 : lk σ.heap b <;> cases h2 : lk σ'.heap b <;> simp_all
  · rw [freeze_lk] at hl ⊢
    simp only [Option.map_eq_some_iff] at hl ⊢
    obtain ⟨y, hy, e⟩ := hl
    obtain ⟨fr, l2⟩ := y
    simp only [Prod.mk.injEq, Bool.or_eq_false_iff] at e
    obtain ⟨⟨e1, e2⟩, e3⟩ := e
    subst e1
    obtain ⟨l3, h3⟩ := h.fl b l2 hy
    exact ⟨l3, (false, l3), h3, by simp only [e2, Bool.or_self]⟩

theorem contentEv_tr {hp : Nat → Option (Bool × List A)} {sz : Nat} {x : A} {K : Nat → List D → Prop} (h : contentEv hp sz x K) :
    ∃ n l, K n l ∧ ∀ (hp' : Nat → Option (Bool × List A)) (K' : Nat → List D → Prop), (∀ b fr l, hp b = some (fr, l) → ∃ fr', hp' b = some (fr', l)) → K' n l → contentEv hp' sz x K' := by
  unfold contentEv at h
  split at h
  · exact ⟨_, _, h.k, fun _ _ _ h' => ⟨h.c, h'⟩⟩
  · exact ⟨_, _, h, fun _ _ _ h' => h'⟩
  · rename_i b o n sz'
    split at h
    · rename_i fr l hl
      obtain ⟨ds, hds, h1, h2, hK⟩ := h
      refine ⟨_, _, hK, fun hp' K' hh h' => ?_⟩
      obtain ⟨fr', hl'⟩ := hh b fr l hl
      simp only [contentEv, hl']
      exact ⟨ds, hds, h1, h2, h'⟩
    · exact h.elim
  · exact h.elim

/-- What is shared out is data. -/
def FD (σ : St) : Prop := ∀ b l, lk σ.heap b = some (true, l) → ∃ ds : List D, l = ds.map A.d

theorem wrEv_tr {σ : St} {d : Option Nat} {op : Op} {K : A → St → Prop} (h : wrEv T G σ d op K) :
    ∃ r τ, K r τ ∧ (τ.n = σ.n ∧ (∀ b l, lk σ.heap b = some (true, l) → ∃ l', lk τ.heap b = some (true, l')) ∧ (∀ b, lk σ.heap b ≠ none → lk τ.heap b ≠ none) ∧ (FD σ → FD τ)) ∧ ∀ (σ' : St) (K' : A → St → Prop), Eqv σ' σ → (∀ τ', Eqv τ' τ → K' r τ') → wrEv T G σ' d op K' := by
  have hwr : ∀ (σ : St) (b : Nat) (l l0 : List A), lk σ.heap b = some (false, l0) → (σ.wr b l).n = σ.n ∧ (∀ c l1, lk σ.heap c = some (true, l1) → ∃ l', lk (σ.wr b l).heap c = some (true, l')) ∧ (∀ c, lk σ.heap c ≠ none → lk (σ.wr b l).heap c ≠ none) ∧ (FD σ → FD (σ.wr b l)) := by
    intro σ b l l0 hlive
    refine ⟨rfl, fun c l1 h => ?_, fun c h => ?_, fun hfd c l1 h => ?_⟩
    · simp only [St.wr, lk_hset]
      split
      · rw [h]; exact ⟨l, rfl⟩
      · exact ⟨l1, h⟩
    · simp only [St.wr, lk_hset]
      split
      · intro e; exact h (by simpa using e)
      · exact h
    · simp only [St.wr, lk_hset] at h
      split at h
      · rename_i e
        subst e
        rw [hlive] at h
        cases h
      · exact hfd c l1 h
  have hki : ∀ (σ : St) (b : Nat), (σ.kill b).n = σ.n ∧ (∀ c l1, lk σ.heap c = some (true, l1) → ∃ l', lk (σ.kill b).heap c = some (true, l')) ∧ (∀ c, lk σ.heap c ≠ none → lk (σ.kill b).heap c ≠ none) ∧ (FD σ → FD (σ.kill b)) := by
    intro σ b
    refine ⟨rfl, fun c l1 h => ?_, fun c h => ?_, fun hfd c l1 h => ?_⟩
    · simp only [St.kill, lk_mapH, h]; exact ⟨_, rfl⟩
    · simp only [St.kill, lk_mapH]; intro e; exact h (by simpa using e)
    · simp only [St.kill, lk_mapH, Option.map_eq_some_iff] at h
      obtain ⟨y, hy, e⟩ := h
      obtain ⟨fr, l2⟩ := y
      cases e
      obtain ⟨ds, rfl⟩ := hfd c l2 hy
      exact ⟨ds, by simp⟩
  unfold wrEv at h
  split at h
  · rename_i t a x
    split at h
    · rename_i b o ea
      split at h
      · rename_i l y hl hy
        obtain ⟨h1, h2, h3, h4, row, hrow, hK⟩ := h
        refine ⟨_, _, hK, hwr _ _ _ l hl, fun σ' K' he h' => ?_⟩
        simp only [wrEv]
        rw [he.ev a, ea]
        simp only [he.hpf hl, hy, he.ev x]
        exact ⟨h1, h2, h3, h4, row, hrow, h' _ (he.wr b _)⟩
      · exact h.elim
    · exact h.elim
  · rename_i c
    split at h
    · rename_i t t2 s x d' hcal hat har
      unfold tySlice at h
      split at h
      · rename_i y hy
        split at h
        · rename_i e hk
          split at h
          · rename_i ye hye
            obtain ⟨h1, h⟩ := h
            obtain ⟨n, l, h, t⟩ := contentEv_tr h
            obtain ⟨h2, h⟩ := h
            have key : ∃ r τ, K r τ ∧ (τ.n = σ.n ∧ (∀ b l, lk σ.heap b = some (true, l) → ∃ l', lk τ.heap b = some (true, l')) ∧ (∀ b, lk σ.heap b ≠ none → lk τ.heap b ≠ none) ∧ (FD σ → FD τ)) ∧ ∀ (σ' : St) (K' : A → St → Prop), Eqv σ' σ → (∀ τ', Eqv τ' τ → K' r τ') → (match σ'.ev G s with
                | .d .nil => Cd (n * ye.bytes ≤ 70368744177664) (Cd ((σ'.hp d').isNone = true) (EqE (l.map A.d) fun row => K' (.own d' 0 n ye.size) (σ'.new d' row)))
                | .own b o n' sz => match σ'.hp b with
                  | some (false, l') => Cd (okKey b o = 0 ∧ sz = ye.size) (Cd (l'.length = n' * sz) (Cd ((n' + n) * ye.bytes ≤ 70368744177664) (DsE l' fun _ => EqE (l' ++ l.map A.d) fun row => K' (.own b 0 (n' + n) sz) ((σ'.kill b).wr b row))))
                  | _ => False
                | _ => False) := by
              split at h
              · rename_i es
                obtain ⟨h3, h4, row, hrow, hK⟩ := h
                have hdn : lk σ.heap d' = none := by simpa [St.hp] using h4
                refine ⟨_, _, hK, ⟨rfl, fun c l1 hc => ?_, fun c hc => ?_, fun hfd c l1 hc => ?_⟩, fun σ' K' he h' => ?_⟩
                · simp only [St.new, lk]
                  rw [if_neg (fun e => by rw [e, hc] at hdn; cases hdn)]
                  exact ⟨l1, hc⟩
                · simp only [St.new, lk]
                  split
                  · simp
                  · exact hc
                · simp only [St.new, lk] at hc
                  split at hc
                  · cases hc
                  · exact hfd c l1 hc
                rw [he.ev s, es]
                have : σ.hp d' = none := by simpa using h4
                exact ⟨h3, by rw [he.hpn this]; rfl, row, hrow, h' _ (he.new d' _)⟩
              · rename_i b o n' sz es
                split at h
                · rename_i l' hl'
                  obtain ⟨h3, h4, h5, ds, hds, row, hrow, hK⟩ := h
                  have hkl : lk (σ.kill b).heap b = some (false, A.kills b l') := by
                    have : lk σ.heap b = some (false, l') := hl'
                    simp only [St.kill, lk_mapH, this]; rfl
                  refine ⟨_, _, hK, ⟨rfl, fun c l1 hc => ?_, fun c hc => ?_, fun hfd => (hwr _ _ _ _ hkl).2.2.2 ((hki σ b).2.2.2 hfd)⟩, fun σ' K' he h' => ?_⟩
                  · obtain ⟨l2, h6⟩ := (hki σ b).2.1 c l1 hc
                    exact (hwr _ _ _ _ hkl).2.1 c l2 h6
                  · exact (hwr _ _ _ _ hkl).2.2.1 c ((hki σ b).2.2.1 c hc)
                  rw [he.ev s, es]
                  simp only [he.hpf hl']
                  exact ⟨h3, h4, h5, ds, hds, row, hrow, h' _ ((he.kill b).wr b _)⟩
                · exact h.elim
              · exact h.elim
            obtain ⟨r, τ, hK, hmono, hk'⟩ := key
            refine ⟨r, τ, hK, hmono, fun σ' K' he h' => ?_⟩
            simp only [wrEv, hcal, hat, har, tySlice, hy, hk, hye]
            refine ⟨h1, ?_⟩
            rw [he.ev x]
            exact t σ'.hp _ (fun b fr l hl => he.hp hl) ⟨h2, hk' σ' K' he h'⟩
          · exact h.elim
        · exact h.elim
      · exact h.elim
    · exact h.elim
  · exact h.elim
end
end Go.Ev

namespace Go.Ev
open Go
section
variable {T : Tab} {P : Program} {G : Glob}

def guardYes (ops : Array Oper) (o : Oper) (σ : St) : Prop :=
  o.guard = none ∨ ∃ j want g, o.guard = some (j, want) ∧ gtmp ops j = some g ∧ σ.get g = .d (.bool want)
def guardNo (ops : Array Oper) (o : Oper) (σ : St) : Prop :=
  ∃ j want g, o.guard = some (j, want) ∧ gtmp ops j = some g ∧ (σ.get g = .d (.bool (!want)) ∨ σ.get g = .d (.tup []))

/-- What an operation leads to is in reach elsewhere too. -/
def Reach (G : Glob) (o : Oper) (σ σ' : St) : Prop := ∀ x ∈ o.op.operands, ∀ b, refs1 (σ.ev G x) b → ∀ fr l, σ.hp b = some (fr, l) → ∃ fr', σ'.hp b = some (fr', l)
def Same (G : Glob) (o : Oper) (σ σ' : St) : Prop := ∀ x ∈ o.op.operands, σ'.ev G x = σ.ev G x

/-- What looks at slots alone. -/
def lite (o : Oper) : Bool := match o.op with
  | .move _ | .assign _ | .extract _ _ | .binOp _ _ _ _ _ | .unOp _ _ _ | .convert _ _ _ => true
  | .call c => match c.callee with
    | .builtin .len => true
    | _ => false
  | _ => false
/-- A store. -/
def isSt (o : Oper) : Bool := match o.op, o.dst with
  | .store _ _ _, none => true
  | _, _ => false
theorem lite_kind {o : Oper} (h : lite o = true) : kindOf o.op = 0 := by
  obtain ⟨dst, op, type, pos, after, guard⟩ := o
  unfold lite at h
  cases op with
  | move _ => rfl
  | assign _ => rfl
  | extract _ _ => rfl
  | binOp _ _ _ _ _ => rfl
  | unOp _ _ _ => rfl
  | convert _ _ _ => rfl
  | call c =>
    obtain ⟨callee, args, at_⟩ := c
    simp only at h
    split at h
    · rfl
    · cases h
  | _ => cases h
theorem isSt_spec {o : Oper} (h : isSt o = true) : kindOf o.op = 2 ∧ o.dst = none ∧ ∃ t a x, o.op = .store t a x := by
  unfold isSt at h
  split at h
  · rename_i t a x h1 h2
    exact ⟨by rw [h1]; rfl, h2, t, a, x, h1⟩
  · cases h
theorem lite_not_st {o : Oper} (h : lite o = true) : isSt o = false := by
  cases hs : isSt o with
  | false => rfl
  | true => have h1 := lite_kind h; rw [(isSt_spec hs).1] at h1; cases h1
theorem valEv_lite {ev : Operand → A} {hp hp' : Nat → Option (Bool × List A)} {o : Oper} (h : lite o = true) (K : A → Prop) (hv : valEv T ev hp o.op K) : valEv T ev hp' o.op K := by
  obtain ⟨dst, op, type, pos, after, guard⟩ := o
  unfold lite at h
  cases op with
  | move _ => exact hv
  | assign _ => exact hv
  | extract _ _ => exact hv
  | binOp _ _ _ _ _ => exact hv
  | unOp _ _ _ => exact hv
  | convert _ _ _ => exact hv
  | call c =>
    obtain ⟨callee, args, at_⟩ := c
    simp only at h
    split at h
    · exact hv
    · cases h
  | _ => cases h

/-- The block that a store writes; a block that an operation looks at. -/
def stb (G : Glob) (o : Oper) (σ : St) (b : Nat) : Prop := match o.op with
  | .store _ a _ => refs1 (σ.ev G a) b
  | _ => False
def refsO (G : Glob) (o : Oper) (σ : St) (b : Nat) : Prop := ∃ x ∈ o.op.operands, refs1 (σ.ev G x) b
inductive StepOk (P : Program) (G : Glob) (T : Tab) (ops : Array Oper) (o : Oper) (σ τ : St) : Prop where
  | skip (hg : guardNo ops o σ) (h : τ = σ.put o.dst (.d (.tup [])))
  | val (hg : guardYes ops o σ) (hk : kindOf o.op = 0) (hl : lite o = false) (r : A) (h : τ = σ.put o.dst r) (t : ∀ (σ' : St) (K' : St → Prop), Same G o σ σ' → Reach G o σ σ' → K' (σ'.put o.dst r) → evOp P G T σ' o K')
  | lt (hg : guardYes ops o σ) (hl : lite o = true) (r : A) (h : τ = σ.put o.dst r) (t : ∀ (σ' : St) (K' : St → Prop), Same G o σ σ' → K' (σ'.put o.dst r) → evOp P G T σ' o K')
  | st (hg : guardYes ops o σ) (hs : isSt o = true) (b : Nat) (l row : List A) (hb : lk σ.heap b = some (false, l)) (h : τ = σ.wr b row) (t : ∀ (σ' : St) (K' : St → Prop), Same G o σ σ' → lk σ'.heap b = some (false, l) → K' (σ'.wr b row) → evOp P G T σ' o K') (hr : stb G o σ b)
  | new (hg : guardYes ops o σ) (hk : kindOf o.op = 1) (d : Nat) (hd : o.dst = some d) (r : A) (l : List A) (hf : lk σ.heap d = none) (h : τ = (σ.new d l).put (some d) r)
      (t : ∀ (σ' : St) (K' : St → Prop), Same G o σ σ' → lk σ'.heap d = none → K' ((σ'.new d l).put (some d) r) → evOp P G T σ' o K')
  | call (hg : guardYes ops o σ) (hk : kindOf o.op = 3) (fresh : Bool) (r : A) (bs : List Nat) (hb : ∀ b ∈ bs, ∃ (fr : Bool) (ds : List D), lk σ.heap b = some (fr, ds.map A.d)) (hbr : ∀ b ∈ bs, refsO G o σ b) (h : τ = (if fresh then σ else σ.freeze bs).put o.dst r)
      (t : ∀ (σ' : St) (K' : St → Prop), Same G o σ σ' → Reach G o σ σ' → K' ((if fresh then σ' else σ'.freeze bs).put o.dst r) → evOp P G T σ' o K')
  | wr (hg : guardYes ops o σ) (hk : kindOf o.op = 2) (hs : isSt o = false) (hn : τ.n = σ.n) (mono : ∀ b l, lk σ.heap b = some (true, l) → ∃ l', lk τ.heap b = some (true, l')) (keys : ∀ b, lk σ.heap b ≠ none → lk τ.heap b ≠ none) (fd : FD σ → FD τ)
      (t : ∀ (σ' : St) (K' : St → Prop), Eqv σ' σ → (∀ τ', Eqv τ' τ → K' τ') → evOp P G T σ' o K')

theorem kindOf_le (op : Op) : kindOf op = 0 ∨ kindOf op = 1 ∨ kindOf op = 2 ∨ kindOf op = 3 := by
  unfold kindOf
  split <;> first | simp | (split <;> simp)

theorem evOp_step {ops : Array Oper} {o : Oper} {σ : St} {K : St → Prop} (hs : safeOp T o.op = true) (hg : guardYes ops o σ) (h : evOp P G T σ o K) : ∃ τ, K τ ∧ StepOk P G T ops o σ τ := by
  rcases kindOf_le o.op with hk | hk | hk | hk
  · simp only [evOp, hk] at h
    obtain ⟨r, h1, h2⟩ := valEv_det hs _ h
    rw [St.putK_eq] at h1
    cases hl : lite o with
    | true =>
      refine ⟨_, h1, .lt hg hl r rfl fun σ' K' he h' => ?_⟩
      simp only [evOp, hk]
      have he2 : Same G o σ ⟨σ'.n, σ'.env, σ.heap⟩ := fun x hx => by
        have h3 : St.ev G ⟨σ'.n, σ'.env, σ.heap⟩ x = σ'.ev G x := by cases x <;> rfl
        rw [h3]; exact he x hx
      have h4 := valEv_tr (ev' := St.ev G ⟨σ'.n, σ'.env, σ.heap⟩) (hp' := σ.hp) he2 (fun x hx b hr fr l hl => ⟨fr, hl⟩) (h2 (fun r => σ'.putK o.dst r K') (by rw [St.putK_eq]; exact h'))
      have h5 : St.ev G ⟨σ'.n, σ'.env, σ.heap⟩ = σ'.ev G := by funext x; cases x <;> rfl
      rw [h5] at h4
      exact valEv_lite hl _ h4
    | false =>
    refine ⟨_, h1, .val hg hk hl r rfl fun σ' K' he hh h' => ?_⟩
    simp only [evOp, hk]
    exact valEv_tr he hh (h2 _ (by rw [St.putK_eq]; exact h'))
  · simp only [evOp, hk] at h
    split at h
    · rename_i d hd
      obtain ⟨hf, h⟩ := h
      obtain ⟨r, l, h1, h2⟩ := newEv_tr h
      rw [St.putK_eq] at h1
      refine ⟨_, h1, .new hg hk d hd r l (by simpa [St.hp] using hf) rfl fun σ' K' he hn h' => ?_⟩
      simp only [evOp, hk, hd]
      exact ⟨by simp [St.hp, hn], h2 _ _ he (by rw [St.putK_eq]; exact h')⟩
    · exact h.elim
  · simp only [evOp, hk] at h
    cases hst : isSt o with
    | true =>
      obtain ⟨_, hdst, t, a, x, hop⟩ := isSt_spec hst
      rw [hop, hdst] at h
      simp only [wrEv] at h
      split at h
      · rename_i b o' ha
        split at h
        · rename_i l y hl hy
          obtain ⟨c1, c2, c3, c4, row, hrow, hK⟩ := h
          refine ⟨_, hK, .st hg hst b l row hl rfl (fun σ' K' he hb h' => ?_) (by unfold stb; rw [hop]; simp only; rw [ha]; simp [refs1])⟩
          have ea : σ'.ev G a = σ.ev G a := he a (by rw [hop]; simp [Op.operands])
          have ex : σ'.ev G x = σ.ev G x := he x (by rw [hop]; simp [Op.operands])
          have hp' : σ'.hp b = some (false, l) := hb
          have hk2 : kindOf (Op.store t a x) = 2 := rfl
          simp only [evOp, hop, hk2, hdst, wrEv, ea, ex, ha, hp', hy]
          exact ⟨c1, c2, c3, c4, row, hrow, h'⟩
        · exact h.elim
      · exact h.elim
    | false =>
    obtain ⟨r, τ, h1, ⟨hn, hm, hky, hfd⟩, h2⟩ := wrEv_tr h
    rw [St.putK_eq] at h1
    refine ⟨_, h1, .wr hg hk hst (by cases o.dst <;> exact hn) (fun b l hl => by cases o.dst <;> exact hm b l hl) (fun b hb => by cases o.dst <;> exact hky b hb) (fun h => by cases o.dst <;> exact hfd h) fun σ' K' he h' => ?_⟩
    simp only [evOp, hk]
    exact h2 σ' _ he fun τ' he' => by rw [St.putK_eq]; exact h' _ (he'.put _ _)
  · simp only [evOp, hk] at h
    obtain ⟨fresh, r, bs, h1, hb, h2⟩ := callEv_tr h
    rw [St.putK_eq] at h1
    refine ⟨_, h1, .call hg hk fresh _ bs hb.1 hb.2 rfl fun σ' K' he hh h' => ?_⟩
    simp only [evOp, hk]
    exact h2 σ' _ he hh (by rw [St.putK_eq]; exact h')

/-- A slot that is known is written with what is known of it: nothing turns. -/
theorem eqv_setBool {σ : St} {g : Nat} {t : Bool} (hg : σ.get g = .d (.bool t)) : Eqv (σ.put (some g) (.d (.bool t))) σ ∧ Eqv σ (σ.put (some g) (.d (.bool t))) := by
  have hget : ∀ u, (σ.put (some g) (.d (.bool t))).get u = σ.get u := by
    intro u
    rw [get_put]
    split
    · rename_i e; subst e; exact hg.symm
    · rfl
  exact ⟨⟨rfl, hget, fun _ => rfl, fun _ l h => ⟨l, h⟩⟩, ⟨rfl, fun u => (hget u).symm, fun _ => rfl, fun _ l h => ⟨l, h⟩⟩⟩

theorem StepOk.congr {ops : Array Oper} {o : Oper} {σ σ0 τ : St} (h : StepOk P G T ops o σ τ) (he : Eqv σ σ0) (he' : Eqv σ0 σ) (hh : σ.heap = σ0.heap) : ∃ τ', StepOk P G T ops o σ0 τ' ∧ Eqv τ τ' ∧ Eqv τ' τ ∧ τ.heap = τ'.heap := by
  have hyes : guardYes ops o σ → guardYes ops o σ0 := by
    rintro (h | ⟨j, want, g, h1, h2, h3⟩)
    · exact .inl h
    · exact .inr ⟨j, want, g, h1, h2, by rw [← he.get]; exact h3⟩
  have hno : guardNo ops o σ → guardNo ops o σ0 := by
    rintro ⟨j, want, g, h1, h2, h3⟩
    exact ⟨j, want, g, h1, h2, by rw [← he.get]; exact h3⟩
  have hsame : ∀ σ', Same G o σ0 σ' → Same G o σ σ' := fun σ' h x hx => (h x hx).trans (he'.ev x)
  have hreach : ∀ σ', Reach G o σ0 σ' → Reach G o σ σ' := fun σ' h x hx b hr fr l hl => by
    refine h x hx b (by rw [he'.ev x]; exact hr) fr l ?_
    show lk σ0.heap b = _
    rw [← hh]; exact hl
  have hput : ∀ (a b : St) (d : Option Nat) (r : A), a.heap = b.heap → (a.put d r).heap = (b.put d r).heap := fun a b d r h => by cases d <;> exact h
  cases h with
  | skip hg h =>
    subst h
    exact ⟨_, .skip (hno hg) rfl, he.put _ _, he'.put _ _, hput _ _ _ _ hh⟩
  | lt hg hl r h t =>
    subst h
    exact ⟨_, .lt (hyes hg) hl r rfl (fun σ' K' h1 h3 => t σ' K' (hsame σ' h1) h3), he.put _ _, he'.put _ _, hput _ _ _ _ hh⟩
  | st hg hs b l row hb h t hr =>
    subst h
    refine ⟨_, .st (hyes hg) hs b l row (by rw [← hh]; exact hb) rfl (fun σ' K' h1 h2 h3 => t σ' K' (hsame σ' h1) h2 h3) (by
      unfold stb at hr ⊢
      split at hr
      · rename_i a x _; rw [he'.ev a]; exact hr
      · exact hr.elim), ?_, ?_, by simp [St.wr, hh]⟩
    · exact he.wr b row
    · exact he'.wr b row
  | val hg hk hl r h t =>
    subst h
    exact ⟨_, .val (hyes hg) hk hl r rfl (fun σ' K' h1 h2 h3 => t σ' K' (hsame σ' h1) (hreach σ' h2) h3), he.put _ _, he'.put _ _, hput _ _ _ _ hh⟩
  | new hg hk d hd r l hf h t =>
    subst h
    exact ⟨_, .new (hyes hg) hk d hd r l (by rw [← hh]; exact hf) rfl (fun σ' K' h1 h2 h3 => t σ' K' (hsame σ' h1) h2 h3), (he.new d l).put _ _, (he'.new d l).put _ _, hput _ _ _ _ (by simp [St.new, hh])⟩
  | call hg hk fresh r bs hb hbr h t =>
    subst h
    refine ⟨_, .call (hyes hg) hk fresh r bs (fun b h => by rw [← hh]; exact hb b h) (fun b h => by obtain ⟨x, hx, hr⟩ := hbr b h; exact ⟨x, hx, by rw [he'.ev x]; exact hr⟩) rfl (fun σ' K' h1 h2 h3 => t σ' K' (hsame σ' h1) (hreach σ' h2) h3), ?_, ?_, ?_⟩
    · cases fresh
      · exact (he.freeze bs).put _ _
      · exact he.put _ _
    · cases fresh
      · exact (he'.freeze bs).put _ _
      · exact he'.put _ _
    · refine hput _ _ _ _ ?_
      cases fresh
      · cases bs <;> simp [St.freeze, hh]
      · exact hh
  | wr hg hk hs hn mono keys fd t =>
    exact ⟨τ, .wr (hyes hg) hk hs (hn.trans he.n) (fun b l hl => mono b l (by rw [hh]; exact hl)) (fun b hb => keys b (by rw [hh]; exact hb)) (fun h => fd fun b l hl => h b l (by rw [← hh]; exact hl)) (fun σ' K' h1 h2 => t σ' K' (h1.trans he') h2), Eqv.refl _, Eqv.refl _, rfl⟩

theorem evGuard_split {ops : Array Oper} {σ : St} {o : Oper} {yes no : St → Prop} (h : evGuard ops σ o yes no) :
    ∃ σ', Eqv σ' σ ∧ Eqv σ σ' ∧ σ'.heap = σ.heap ∧ ((guardYes ops o σ' ∧ yes σ') ∨ (guardNo ops o σ' ∧ no σ')) := by
  unfold evGuard at h
  split at h
  · rename_i hg
    exact ⟨σ, Eqv.refl _, Eqv.refl _, rfl, .inl ⟨.inl hg, h⟩⟩
  · rename_i j want hg
    split at h
    · exact h.elim
    · rename_i g hgt
      split at h
      · rename_i t ht
        obtain ⟨e1, e2⟩ := eqv_setBool ht
        cases want <;> cases t
        · exact ⟨_, e1, e2, rfl, .inl ⟨.inr ⟨j, _, g, hg, hgt, by rw [get_put, if_pos rfl]⟩, by have := h.ff rfl; rwa [St.putK_eq] at this⟩⟩
        · exact ⟨_, e1, e2, rfl, .inr ⟨⟨j, _, g, hg, hgt, .inl (by rw [get_put, if_pos rfl]; rfl)⟩, by have := h.tt rfl; rwa [St.putK_eq] at this⟩⟩
        · exact ⟨_, e1, e2, rfl, .inr ⟨⟨j, _, g, hg, hgt, .inl (by rw [get_put, if_pos rfl]; rfl)⟩, by have := h.ff rfl; rwa [St.putK_eq] at this⟩⟩
        · exact ⟨_, e1, e2, rfl, .inl ⟨.inr ⟨j, _, g, hg, hgt, by rw [get_put, if_pos rfl]⟩, by have := h.tt rfl; rwa [St.putK_eq] at this⟩⟩
      · rename_i ht
        exact ⟨σ, Eqv.refl _, Eqv.refl _, rfl, .inr ⟨⟨j, want, g, hg, hgt, .inr ht⟩, h⟩⟩
      · exact h.elim

/-- THE TEXT's ORDER, STEP BY STEP. -/
theorem trace_of {ops : Array Oper} {Q : St → Prop} : ∀ (rest : List Oper) (σ : St), (∀ o ∈ rest, safeOp T o.op = true) → evOps P G T ops rest σ Q →
    ∃ σs : Nat → St, σs 0 = σ ∧ (∃ τ, Q τ ∧ Eqv (σs rest.length) τ ∧ Eqv τ (σs rest.length)) ∧ ∀ i o, rest[i]? = some o → ∃ τ, StepOk P G T ops o (σs i) τ ∧ Eqv τ (σs (i + 1)) ∧ Eqv (σs (i + 1)) τ ∧ (σs (i + 1)).heap = τ.heap
  | [], σ, _, h => ⟨fun _ => σ, rfl, ⟨σ, h, Eqv.refl _, Eqv.refl _⟩, fun i o h => by simp at h⟩
  | o :: rest, σ, hs, h => by
    simp only [evOps] at h
    obtain ⟨σg, e1, e2, hh, hcase⟩ := evGuard_split h
    have key : ∃ τ, StepOk P G T ops o σg τ ∧ evOps P G T ops rest τ Q := by
      rcases hcase with ⟨hg, hy⟩ | ⟨hg, hn⟩
      · obtain ⟨τ, h1, h2⟩ := evOp_step (hs o (by simp)) hg hy
        exact ⟨τ, h2, h1⟩
      · rw [St.putK_eq] at hn
        exact ⟨_, .skip hg rfl, hn⟩
    obtain ⟨τ, hstep, hrest⟩ := key
    obtain ⟨τ', hstep', e3, e4, hh'⟩ := hstep.congr e1 e2 hh
    obtain ⟨σs, h0, hQ, hst⟩ := trace_of rest τ (fun o ho => hs o (by simp [ho])) hrest
    refine ⟨fun i => match i with | 0 => σ | i + 1 => σs i, rfl, hQ, fun i o' hi => ?_⟩
    cases i with
    | zero =>
      simp at hi
      subst hi
      simp only [h0]
      exact ⟨τ', hstep', e4, e3, hh'⟩
    | succ i => exact hst i o' (by simpa using hi)

/-- What must have been done before. -/
def predsOf (o : Oper) : List Nat := (o.after.toList.filter (Region.binds .any)).map (·.on)
inductive Anc (ops : Array Oper) : Nat → Nat → Prop where
  | one {j i : Nat} {o : Oper} (h : ops[j]? = some o) (hi : i ∈ predsOf o) : Anc ops j i
  | more {j p i : Nat} {o : Oper} (h : ops[j]? = some o) (hp : p ∈ predsOf o) (ha : Anc ops p i) : Anc ops j i
def maskOf (acc : List Nat) (ps : List Nat) : Nat := ps.foldl (fun s p => s ||| 2 ^ p ||| acc.getD p 0) 0
def masks : List Oper → List Nat → List Nat
  | [], acc => acc
  | o :: os, acc => masks os (acc ++ [maskOf acc (predsOf o)])
/-- A store and what doesn't look at its block. -/
def free (rf : Nat → Nat → Bool) (i : Nat) (x : Oper) (j : Nat) (y : Oper) : Bool := isSt x && (lite y || ((kindOf y.op == 0 || kindOf y.op == 3) && rf i j))
def confl (rf : Nat → Nat → Bool) (ops : Array Oper) (i : Nat) (x : Oper) (j : Nat) (y : Oper) : Bool := !(x.apart ops y) || (kindOf x.op == 2 && !(free rf i x j y)) || (kindOf y.op == 2 && !(free rf j y i x))
theorem confl_wr {rf : Nat → Nat → Bool} {ops : Array Oper} {i j : Nat} {x y : Oper} (h : kindOf x.op = 2) (hs : isSt x = false ∨ (kindOf y.op ≠ 0 ∧ kindOf y.op ≠ 3) ∨ (lite y = false ∧ rf i j = false)) : confl rf ops i x j y = true ∧ confl rf ops j y i x = true := by
  unfold confl free
  rcases hs with hs | hs | ⟨hs, hs'⟩
  · simp [h, hs]
  · have hl : lite y = false := by cases hl : lite y with | false => rfl | true => exact absurd (lite_kind hl) hs.1
    simp [h, hs.1, hs.2, hl]
  · simp [h, hs, hs']
def okFrom (rf : Nat → Nat → Bool) (ops : Array Oper) (ms : List Nat) : List Oper → Nat → Bool
  | [], _ => true
  | o :: os, j => ((predsOf o).all (· < j)) && ((List.range j).all fun i => match ops[i]? with | some x => !(confl rf ops i x j o) || (ms.getD j 0).testBit i | none => true) && okFrom rf ops ms os (j + 1)
def okDrawR (T : Tab) (rf : Nat → Nat → Bool) (ops : Array Oper) : Bool := okFrom rf ops (masks ops.toList []) ops.toList 0 && ops.toList.all fun o => safeOp T o.op
def okDraw (T : Tab) (ops : Array Oper) : Bool := okFrom (fun _ _ => false) ops (masks ops.toList []) ops.toList 0 && ops.toList.all fun o => safeOp T o.op

theorem maskOf_bit {ops : Array Oper} {acc : List Nat} {o : Oper} {j : Nat} (ho : ops[j]? = some o) (hacc : ∀ p i, (acc.getD p 0).testBit i = true → Anc ops p i) : ∀ (ps : List Nat) (s i : Nat), (∀ p ∈ ps, p ∈ predsOf o) → (s.testBit i = true → Anc ops j i) →
    (ps.foldl (fun s p => s ||| 2 ^ p ||| acc.getD p 0) s).testBit i = true → Anc ops j i
  | [], s, i, _, hs, h => hs h
  | p :: ps, s, i, hps, hs, h => by
    simp only [List.foldl_cons] at h
    refine maskOf_bit ho hacc ps _ i (fun q hq => hps q (by simp [hq])) (fun h' => ?_) h
    simp only [Nat.testBit_or, Bool.or_eq_true] at h'
    rcases h' with (h' | h') | h'
    · exact hs h'
    · rw [Nat.testBit_two_pow] at h'
      have : p = i := by simpa using h'
      subst this
      exact .one ho (hps p (by simp))
    · exact .more ho (hps p (by simp)) (hacc p i h')

theorem masks_bit {ops : Array Oper} : ∀ (os : List Oper) (acc : List Nat), ops.toList.drop acc.length = os → (∀ p i, (acc.getD p 0).testBit i = true → Anc ops p i) → ∀ p i, ((masks os acc).getD p 0).testBit i = true → Anc ops p i
  | [], acc, _, hacc, p, i, h => hacc p i h
  | o :: os, acc, hd, hacc, p, i, h => by
    simp only [masks] at h
    have ho : ops[acc.length]? = some o := by
      have : (ops.toList.drop acc.length)[0]? = some o := by rw [hd]; rfl
      simpa using this
    refine masks_bit os _ ?_ ?_ p i h
    · have : (ops.toList.drop acc.length).drop 1 = os := by rw [hd]; rfl
      rw [List.drop_drop] at this
      simpa using this
    · intro q k hq
      by_cases hlt : q < acc.length
      · have : (acc ++ [maskOf acc (predsOf o)]).getD q 0 = acc.getD q 0 := by
          simp [List.getElem?_append, hlt]
        rw [this] at hq
        exact hacc q k hq
      · by_cases heq : q = acc.length
        · subst heq
          have : (acc ++ [maskOf acc (predsOf o)]).getD acc.length 0 = maskOf acc (predsOf o) := by simp
          rw [this] at hq
          exact maskOf_bit ho hacc _ 0 k (fun _ h => h) (by simp) hq
        · have : (acc ++ [maskOf acc (predsOf o)]).getD q 0 = 0 := by
            rw [List.getD_eq_getElem?_getD, List.getElem?_eq_none (by simp; omega)]; rfl
          rw [this] at hq
          simp at hq

theorem okFrom_spec {rf : Nat → Nat → Bool} {ops : Array Oper} {ms : List Nat} (hms : ∀ p i, (ms.getD p 0).testBit i = true → Anc ops p i) : ∀ (os : List Oper) (j : Nat), ops.toList.drop j = os → okFrom rf ops ms os j = true →
    ∀ k o, j ≤ k → ops[k]? = some o → (∀ p ∈ predsOf o, p < k) ∧ ∀ i x, i < k → ops[i]? = some x → confl rf ops i x k o = true → Anc ops k i
  | [], j, hd, _, k, o, hk, ho => by
    have : ops.toList.length ≤ j := List.drop_eq_nil_iff.1 hd
    have h2 : k < ops.size := by
      rcases Nat.lt_or_ge k ops.size with h | h
      · exact h
      · simp [Array.getElem?_eq_none h] at ho
    simp at this
    omega
  | o0 :: os, j, hd, h, k, o, hk, ho => by
    simp only [okFrom, Bool.and_eq_true] at h
    obtain ⟨⟨h1, h2⟩, h3⟩ := h
    by_cases hkj : k = j
    · subst hkj
      have hoj : ops[k]? = some o0 := by
        have : (ops.toList.drop k)[0]? = some o0 := by rw [hd]; rfl
        simpa using this
      rw [hoj] at ho; cases ho
      refine ⟨fun p hp => by simpa using List.all_eq_true.1 h1 p hp, fun i x hi hx hc => ?_⟩
      have := List.all_eq_true.1 h2 i (by simpa using hi)
      rw [hx] at this
      simp only [hc, Bool.not_true, Bool.false_or] at this
      exact hms k i this
    · refine okFrom_spec hms os (j + 1) ?_ h3 k o (by omega) ho
      have : (ops.toList.drop j).drop 1 = os := by rw [hd]; rfl
      rwa [List.drop_drop] at this

theorem confl_comm {rf : Nat → Nat → Bool} {ops : Array Oper} {i j : Nat} {x y : Oper} (h : confl rf ops i x j y = true) : confl rf ops j y i x = true := by
  unfold confl at h ⊢
  have hs : ∀ a b : Oper, a.apart ops b = true → b.apart ops a = true := by
    intro a b hab
    obtain ⟨h1, h2, h3⟩ := Oper.apart_spec hab
    unfold Oper.apart
    simp only [Bool.and_eq_true]
    constructor
    · cases hb : b.dst with
      | none => rfl
      | some d =>
        simp only [Bool.and_eq_true, Bool.not_eq_true', bne_iff_ne]
        exact ⟨by simpa using h3 d hb, fun e => h2 d e hb⟩
    · cases ha : a.dst with
      | none => rfl
      | some d => simpa using h1 d ha
  have hxy : x.apart ops y = y.apart ops x := by
    cases h1 : x.apart ops y <;> cases h2 : y.apart ops x
    · rfl
    · rw [hs _ _ h2] at h1; cases h1
    · rw [hs _ _ h1] at h2; cases h2
    · rfl
  rw [hxy] at h
  simp only [Bool.or_eq_true] at h ⊢
  rcases h with (h | h) | h
  · exact .inl (.inl h)
  · exact .inr h
  · exact .inl (.inr h)
end
end Go.Ev

namespace Go.Ev
open Go
section
variable {T : Tab} {P : Program} {G : Glob} {rf : Nat → Nat → Bool} {ops : Array Oper} {σs : Nat → St}

def StepAt (P : Program) (G : Glob) (T : Tab) (ops : Array Oper) (o : Oper) (σ τ' : St) : Prop := ∃ τ, StepOk P G T ops o σ τ ∧ Eqv τ τ' ∧ Eqv τ' τ ∧ τ'.heap = τ.heap

/-- Which operations touch a slot, a block's cells. -/
def touch (ops : Array Oper) (i t : Nat) : Prop := ∃ o, ops[i]? = some o ∧ (o.dst = some t ∨ (kindOf o.op = 2 ∧ isSt o = false))
def touchC (G : Glob) (ops : Array Oper) (σs : Nat → St) (i b : Nat) : Prop := ∃ o, ops[i]? = some o ∧ ((kindOf o.op = 2 ∧ (isSt o = true → stb G o (σs i) b)) ∨ (kindOf o.op = 1 ∧ o.dst = some b ∧ guardYes ops o (σs i)))

def ct (σ : St) (b : Nat) : Option (List A) := (lk σ.heap b).map (·.2)

theorem guard_not_both {o : Oper} {σ : St} (h1 : guardYes ops o σ) (h2 : guardNo ops o σ) : False := by
  obtain ⟨j, want, g, e1, e2, e3⟩ := h2
  rcases h1 with h1 | ⟨j', want', g', e4, e5, e6⟩
  · rw [h1] at e1; cases e1
  · rw [e1] at e4
    cases e4
    rw [e2] at e5; cases e5
    rw [e6] at e3
    rcases e3 with e3 | e3
    · simp only [A.d.injEq, D.bool.injEq] at e3
      cases want <;> cases e3
    · cases e3

theorem put_get_ne {σ : St} {d : Option Nat} {r : A} {t : Nat} (h : d ≠ some t) : (σ.put d r).get t = σ.get t := by
  cases d with
  | none => rfl
  | some d => rw [get_put, if_neg (fun e => h (by rw [e]))]
theorem put_heap (σ : St) (d : Option Nat) (r : A) : (σ.put d r).heap = σ.heap := by cases d <;> rfl
theorem put_n (σ : St) (d : Option Nat) (r : A) : (σ.put d r).n = σ.n := by cases d <;> rfl

theorem wr_lk (σ : St) (b : Nat) (l : List A) (k : Nat) : lk (σ.wr b l).heap k = if k = b then (lk σ.heap k).map fun x => (x.1, l) else lk σ.heap k := lk_hset _ _ _ _
theorem hset_true {σ : St} {b b' : Nat} {l row : List A} (hl : lk σ.heap b = some (true, l)) : ∃ l', lk (σ.wr b' row).heap b = some (true, l') := by
  rw [wr_lk]; split
  · rw [hl]; exact ⟨row, rfl⟩
  · exact ⟨l, hl⟩
theorem hset_keys {σ : St} {b b' : Nat} {row : List A} (hl : lk σ.heap b ≠ none) : lk (σ.wr b' row).heap b ≠ none := by
  rw [wr_lk]; split
  · intro e; exact hl (by simpa using e)
  · exact hl
theorem hset_fd {σ : St} {b b' : Nat} {l' l row : List A} (hb : lk σ.heap b' = some (false, l')) (hl : lk (σ.wr b' row).heap b = some (true, l)) (hf : ∀ l, lk σ.heap b = some (true, l) → ∃ ds : List D, l = ds.map A.d) : ∃ ds : List D, l = ds.map A.d := by
  rw [wr_lk] at hl; split at hl
  · rename_i e; subst e; rw [hb] at hl; cases hl
  · exact hf l hl
theorem step_get {o : Oper} {σ τ : St} (h : StepAt P G T ops o σ τ) {t : Nat} (h1 : o.dst ≠ some t) (h2 : ¬ (kindOf o.op = 2 ∧ isSt o = false)) : τ.get t = σ.get t := by
  obtain ⟨τ0, h, _, he, _⟩ := h
  rw [he.get]
  cases h with
  | skip hg h => rw [h, put_get_ne h1]
  | lt hg hl r h t => rw [h, put_get_ne h1]
  | st hg hs b l row hb h t => rw [h]; rfl
  | val hg hk hl r h t => rw [h, put_get_ne h1]
  | new hg hk d hd r l hf h t => rw [h, put_get_ne (by rw [← hd]; exact h1)]; rfl
  | call hg hk fresh r bs hb hbr h t =>
    rw [h, put_get_ne h1]
    cases fresh
    · exact freeze_get _ _ _
    · rfl
  | wr hg hk hs => exact absurd ⟨hk, hs⟩ h2
theorem step_n {o : Oper} {σ τ : St} (h : StepAt P G T ops o σ τ) : τ.n = σ.n := by
  obtain ⟨τ0, h, _, he, _⟩ := h
  rw [he.n]
  cases h with
  | skip hg h => rw [h, put_n]
  | lt hg hl r h t => rw [h, put_n]
  | st hg hs b l row hb h t => rw [h]; rfl
  | val hg hk hl r h t => rw [h, put_n]
  | new hg hk d hd r l hf h t => rw [h, put_n]; rfl
  | call hg hk fresh r bs hb hbr h t =>
    rw [h, put_n]
    cases fresh
    · exact freeze_n _ _
    · rfl
  | wr hg hk hs hn => exact hn
theorem step_ct {o : Oper} {σ τ : St} (h : StepAt P G T ops o σ τ) {b : Nat} (h1 : ¬ (kindOf o.op = 2 ∧ (isSt o = true → stb G o σ b))) (h2 : ¬ (kindOf o.op = 1 ∧ o.dst = some b ∧ guardYes ops o σ)) : ct τ b = ct σ b := by
  obtain ⟨τ0, h, _, he, hh⟩ := h
  unfold ct
  rw [hh]
  cases h with
  | skip hg h => rw [h, put_heap]
  | lt hg hl r h t => rw [h, put_heap]
  | st hg hs b0 l row hb h t hr =>
    rw [h, wr_lk, if_neg]
    rintro rfl
    exact h1 ⟨(isSt_spec hs).1, fun _ => hr⟩
  | val hg hk hl r h t => rw [h, put_heap]
  | new hg hk d hd r l hf h t =>
    rw [h, put_heap]
    simp only [St.new, lk]
    rw [if_neg]
    rintro rfl
    exact h2 ⟨hk, hd, hg⟩
  | call hg hk fresh r bs hb hbr h t =>
    rw [h, put_heap]
    cases fresh
    · simp only [Bool.false_eq_true, if_false, freeze_lk, Option.map_map]; rfl
    · rfl
  | wr hg hk hs => exact absurd ⟨hk, fun e => by rw [hs] at e; cases e⟩ h1
theorem step_true {o : Oper} {σ τ : St} (h : StepAt P G T ops o σ τ) {b : Nat} {l : List A} (hl : lk σ.heap b = some (true, l)) : ∃ l', lk τ.heap b = some (true, l') := by
  obtain ⟨τ0, h, _, he, hh⟩ := h
  rw [hh]
  cases h with
  | skip hg h => rw [h, put_heap]; exact ⟨l, hl⟩
  | lt hg hl' r h t => rw [h, put_heap]; exact ⟨l, hl⟩
  | st hg hs b' l' row hb h t => rw [h]; exact hset_true hl
  | val hg hk hl' r h t => rw [h, put_heap]; exact ⟨l, hl⟩
  | new hg hk d hd r l' hf h t =>
    rw [h, put_heap]
    simp only [St.new, lk]
    rw [if_neg]
    · exact ⟨l, hl⟩
    · rintro rfl
      rw [hl] at hf; cases hf
  | call hg hk fresh r bs hb hbr h t =>
    rw [h, put_heap]
    cases fresh
    · simp only [Bool.false_eq_true, if_false, freeze_lk, hl]; exact ⟨l, rfl⟩
    · exact ⟨l, hl⟩
  | wr hg hk hs hn mono keys fd t => exact mono b l hl
theorem step_keys {o : Oper} {σ τ : St} (h : StepAt P G T ops o σ τ) {b : Nat} (hl : lk σ.heap b ≠ none) : lk τ.heap b ≠ none := by
  obtain ⟨τ0, h, _, he, hh⟩ := h
  rw [hh]
  cases h with
  | skip hg h => rw [h, put_heap]; exact hl
  | lt hg hl' r h t => rw [h, put_heap]; exact hl
  | st hg hs b' l' row hb h t => rw [h]; exact hset_keys hl
  | val hg hk hl' r h t => rw [h, put_heap]; exact hl
  | new hg hk d hd r l' hf h t =>
    rw [h, put_heap]
    simp only [St.new, lk]
    split
    · simp
    · exact hl
  | call hg hk fresh r bs hb hbr h t =>
    rw [h, put_heap]
    cases fresh
    · simp only [Bool.false_eq_true, if_false, freeze_lk]
      intro e; exact hl (by simpa using e)
    · exact hl
  | wr hg hk hs hn mono keys fd t => exact keys b hl

theorem step_fd {o : Oper} {σ τ : St} (h : StepAt P G T ops o σ τ) (hfd : FD σ) : FD τ := by
  obtain ⟨τ0, h, _, he, hh⟩ := h
  intro b l hl
  rw [hh] at hl
  cases h with
  | skip hg h => rw [h, put_heap] at hl; exact hfd b l hl
  | lt hg hl' r h t => rw [h, put_heap] at hl; exact hfd b l hl
  | st hg hs b' l' row hb h t => rw [h] at hl; exact hset_fd hb hl (hfd b)
  | val hg hk hl' r h t => rw [h, put_heap] at hl; exact hfd b l hl
  | new hg hk d hd r l' hf h t =>
    rw [h, put_heap] at hl
    simp only [St.new, lk] at hl
    split at hl
    · cases hl
    · exact hfd b l hl
  | call hg hk fresh r bs hb hbr h t =>
    rw [h, put_heap] at hl
    cases fresh with
    | true => exact hfd b l hl
    | false =>
      simp only [Bool.false_eq_true, if_false, freeze_lk, Option.map_eq_some_iff] at hl
      obtain ⟨y, hy, e⟩ := hl
      obtain ⟨fr, l2⟩ := y
      simp only [Prod.mk.injEq] at e
      obtain ⟨e3, rfl⟩ := e
      cases fr with
      | true => exact hfd b l2 hy
      | false =>
        simp only [Bool.false_or, List.contains_iff_mem] at e3
        obtain ⟨fr', ds, hds⟩ := hb b e3
        rw [hy] at hds
        cases hds
        exact ⟨ds, rfl⟩
  | wr hg hk hs hn mono keys fd t => exact fd hfd b l hl

variable (hst : ∀ i o, ops[i]? = some o → StepAt P G T ops o (σs i) (σs (i + 1)))
include hst

theorem size_some {i : Nat} (h : i < ops.size) : ∃ o, ops[i]? = some o := by
  have _ := hst
  exact ⟨ops[i], by simp [h]⟩

theorem walk_up {Q : St → Prop} {a : Nat} (hs : ∀ i o, a ≤ i → ops[i]? = some o → Q (σs i) → Q (σs (i + 1))) (ha : Q (σs a)) : ∀ k, a + k ≤ ops.size → Q (σs (a + k))
  | 0, _ => ha
  | k + 1, hk => by
    obtain ⟨o, ho⟩ := size_some hst (i := a + k) (by omega)
    exact hs (a + k) o (by omega) ho (walk_up hs ha k (by omega))

theorem keys_up {a m b : Nat} (ham : a ≤ m) (hm : m ≤ ops.size) (h : lk (σs a).heap b ≠ none) : lk (σs m).heap b ≠ none := by
  have := walk_up hst (Q := fun σ => lk σ.heap b ≠ none) (a := a) (fun i o _ ho h => step_keys (hst i o ho) h) h (m - a) (by omega)
  rwa [show a + (m - a) = m by omega] at this
theorem true_up {a m b : Nat} (ham : a ≤ m) (hm : m ≤ ops.size) (h : ∃ l, lk (σs a).heap b = some (true, l)) : ∃ l, lk (σs m).heap b = some (true, l) := by
  have := walk_up hst (Q := fun σ => ∃ l, lk σ.heap b = some (true, l)) (a := a) (fun i o _ ho ⟨l, h⟩ => step_true (hst i o ho) h) h (m - a) (by omega)
  rwa [show a + (m - a) = m by omega] at this
theorem n_up {m : Nat} (hm : m ≤ ops.size) : (σs m).n = (σs 0).n := by
  have := walk_up hst (Q := fun σ => σ.n = (σs 0).n) (a := 0) (fun i o _ ho h => (step_n (hst i o ho)).trans h) rfl m (by omega)
  rwa [Nat.zero_add] at this
/-- Nothing turns where nothing touches. -/
theorem get_up {a m t : Nat} (ham : a ≤ m) (hm : m ≤ ops.size) (h : ∀ i, a ≤ i → i < m → ¬ touch ops i t) : (σs m).get t = (σs a).get t := by
  obtain ⟨k, rfl⟩ : ∃ k, m = a + k := ⟨m - a, by omega⟩
  clear ham
  induction k with
  | zero => rfl
  | succ k ih =>
    have hk := ih (by omega) (fun i h1 h2 => h i h1 (by omega))
    obtain ⟨o, ho⟩ := size_some hst (i := a + k) (by omega)
    have hn := h (a + k) (by omega) (by omega)
    rw [← Nat.add_assoc, step_get (hst _ o ho) (fun e => hn ⟨o, ho, .inl e⟩) (fun e => hn ⟨o, ho, .inr e⟩), hk]
theorem ct_up {a m b : Nat} (ham : a ≤ m) (hm : m ≤ ops.size) (h : ∀ i, a ≤ i → i < m → ¬ touchC G ops σs i b) : ct (σs m) b = ct (σs a) b := by
  obtain ⟨k, rfl⟩ : ∃ k, m = a + k := ⟨m - a, by omega⟩
  clear ham
  induction k with
  | zero => rfl
  | succ k ih =>
    have hk := ih (by omega) (fun i h1 h2 => h i h1 (by omega))
    obtain ⟨o, ho⟩ := size_some hst (i := a + k) (by omega)
    have hn := h (a + k) (by omega) (by omega)
    rw [← Nat.add_assoc, step_ct (hst _ o ho) (fun e => hn ⟨o, ho, .inl e⟩) (fun e => hn ⟨o, ho, .inr e⟩), hk]

/-- What may share a block out. -/
def Fz (G : Glob) (x : Oper) (σ : St) (b : Nat) : Prop := kindOf x.op ≠ 0 ∧ (kindOf x.op = 3 → refsO G x σ b)
/-- What has been done so far is of one mind with the text's order. -/
structure Mind (G : Glob) (ops : Array Oper) (σs : Nat → St) (L : Nat → Prop) (σE : St) : Prop where
  n : σE.n = (σs 0).n
  get : ∀ t m, m ≤ ops.size → (∀ i, i < ops.size → touch ops i t → (L i ↔ i < m)) → σE.get t = (σs m).get t
  ct : ∀ b m, m ≤ ops.size → (∀ i, i < ops.size → touchC G ops σs i b → (L i ↔ i < m)) → Ev.ct σE b = Ev.ct (σs m) b
  fl : ∀ m, m ≤ ops.size → ∀ b, (∀ i x, ops[i]? = some x → Fz G x (σs i) b → L i → i < m) → ∀ l, lk (σs m).heap b = some (false, l) → ∀ l', lk σE.heap b ≠ some (true, l')

variable {L : Nat → Prop} {σE : St} {j : Nat} {o : Oper}
theorem Mind.start : Mind G ops σs (fun _ => False) (σs 0) := by
  refine ⟨rfl, fun t m hm h => ?_, fun b m hm h => ?_, fun m hm b _ l hl l' h0 => ?_⟩
  · exact (get_up hst (Nat.zero_le m) hm fun i _ hi ht => (h i (by omega) ht).2 hi).symm
  · exact (ct_up hst (Nat.zero_le m) hm fun i _ hi ht => (h i (by omega) ht).2 hi).symm
  · obtain ⟨l2, h2⟩ := true_up hst (Nat.zero_le m) hm ⟨l', h0⟩
    rw [hl] at h2; cases h2

omit hst in
theorem confl_of_touch {i j : Nat} {x o : Oper} {t : Nat} (hx : x.dst = some t ∨ (kindOf x.op = 2 ∧ isSt x = false)) (ht : t ∈ o.looksAt ops ∨ o.dst = some t) : confl rf ops i x j o = true := by
  rcases hx with hx | hx
  · unfold confl
    have : x.apart ops o = false := by
      cases ha : x.apart ops o with
      | false => rfl
      | true =>
        obtain ⟨h1, h2, _⟩ := Oper.apart_spec ha
        rcases ht with ht | ht
        · exact absurd ht (h1 t hx)
        · exact absurd ht (h2 t hx)
    simp [this]
  · exact (confl_wr hx.1 (.inl hx.2)).1

variable (hj : ops[j]? = some o) (hnj : ¬ L j) (ord1 : ∀ i x, i < j → ops[i]? = some x → confl rf ops i x j o = true → L i) (ord2 : ∀ i x, j < i → ops[i]? = some x → confl rf ops i x j o = true → ¬ L i)
include hj hnj ord1 ord2

omit hst in
/-- The touchers of what the operation looks at have been done just as in the text. -/
theorem cons_at {t : Nat} (ht : t ∈ o.looksAt ops ∨ o.dst = some t) : ∀ i, i < ops.size → touch ops i t → (L i ↔ i < j) := by
  rintro i hi ⟨x, hx, hxt⟩
  have hc : confl rf ops i x j o = true := confl_of_touch hxt ht
  rcases Nat.lt_trichotomy i j with h | h | h
  · exact ⟨fun _ => h, fun _ => ord1 i x h hx hc⟩
  · subst h; exact ⟨fun h => absurd h hnj, fun h => absurd h (Nat.lt_irrefl _)⟩
  · exact ⟨fun hL => absurd hL (ord2 i x h hx hc), fun h' => by omega⟩
omit hst in
theorem cons_all (hk : kindOf o.op = 2) (hs : isSt o = false) : ∀ i, i < ops.size → (L i ↔ i < j) := by
  intro i hi
  obtain ⟨x, hx⟩ : ∃ x, ops[i]? = some x := ⟨ops[i], by simp [hi]⟩
  have hc : confl rf ops i x j o = true := (confl_wr hk (.inl hs)).2
  rcases Nat.lt_trichotomy i j with h | h | h
  · exact ⟨fun _ => h, fun _ => ord1 i x h hx hc⟩
  · subst h; exact ⟨fun h => absurd h hnj, fun h => absurd h (Nat.lt_irrefl _)⟩
  · exact ⟨fun hL => absurd hL (ord2 i x h hx hc), fun h' => by omega⟩

theorem lt_size : j < ops.size := by
  have _ := hst
  have _ := hnj
  have _ := ord1
  have _ := ord2
  rcases Nat.lt_or_ge j ops.size with h | h
  · exact h
  · simp [Array.getElem?_eq_none h] at hj

theorem Mind.step (hM : Mind G ops σs L σE) (hk : kindOf o.op ≠ 2) {σE' : St} (hn : σE'.n = σE.n) (hget1 : ∀ t, o.dst = some t → σE'.get t = (σs (j + 1)).get t) (hget2 : ∀ t, o.dst ≠ some t → σE'.get t = σE.get t)
    (hct1 : ∀ b, kindOf o.op = 1 ∧ o.dst = some b ∧ guardYes ops o (σs j) → Ev.ct σE' b = Ev.ct (σs (j + 1)) b) (hct2 : ∀ b, ¬ (kindOf o.op = 1 ∧ o.dst = some b ∧ guardYes ops o (σs j)) → Ev.ct σE' b = Ev.ct σE b)
    (hfl : ∀ b l', lk σE'.heap b = some (true, l') → (∃ l, lk σE.heap b = some (true, l)) ∨ (Fz G o (σs j) b ∧ ∃ l, lk (σs (j + 1)).heap b = some (true, l))) : Mind G ops σs (fun i => L i ∨ i = j) σE' := by
  have hjs := lt_size hst hj hnj ord1 ord2
  refine ⟨hn.trans hM.n, fun t m hm h => ?_, fun b m hm h => ?_, fun m hm b h l hl l' h0 => ?_⟩
  · by_cases ht : o.dst = some t
    · rw [hget1 t ht]
      have hjm : j < m := (h j hjs ⟨o, hj, .inl ht⟩).1 (.inr rfl)
      refine (get_up hst hjm hm fun i h1 h2 htc => ?_).symm
      obtain ⟨x, hx, hxt⟩ := htc
      have hL := (h i (by omega) ⟨x, hx, hxt⟩).2 h2
      rcases hL with hL | hL
      · exact ord2 i x (by omega) hx (confl_of_touch hxt (.inr ht)) hL
      · omega
    · rw [hget2 t ht]
      refine hM.get t m hm fun i hi htc => ?_
      have := h i hi htc
      have hne : i ≠ j := by
        rintro rfl
        obtain ⟨x, hx, hxt⟩ := htc
        rw [hj] at hx; cases hx
        rcases hxt with hxt | hxt
        · exact ht hxt
        · exact hk hxt.1
      exact ⟨fun hL => this.1 (.inl hL), fun hlt => (this.2 hlt).resolve_right hne⟩
  · by_cases hb : kindOf o.op = 1 ∧ o.dst = some b ∧ guardYes ops o (σs j)
    · rw [hct1 b hb]
      have hjm : j < m := (h j hjs ⟨o, hj, .inr hb⟩).1 (.inr rfl)
      refine (ct_up hst hjm hm fun i h1 h2 htc => ?_).symm
      obtain ⟨x, hx, hxt⟩ := htc
      have hL := (h i (by omega) ⟨x, hx, hxt⟩).2 h2
      rcases hL with hL | hL
      · refine ord2 i x (by omega) hx ?_ hL
        rcases hxt with hxt | hxt
        · exact (confl_wr hxt.1 (.inr (.inl (by rw [hb.1]; decide)))).1
        · exact confl_of_touch (t := b) (.inl hxt.2.1) (.inr hb.2.1)
      · omega
    · rw [hct2 b hb]
      refine hM.ct b m hm fun i hi htc => ?_
      have := h i hi htc
      have hne : i ≠ j := by
        rintro rfl
        obtain ⟨x, hx, hxt⟩ := htc
        rw [hj] at hx; cases hx
        rcases hxt with hxt | hxt
        · exact hk hxt.1
        · exact hb hxt
      exact ⟨fun hL => this.1 (.inl hL), fun hlt => (this.2 hlt).resolve_right hne⟩
  · rcases hfl b l' h0 with ⟨l2, h2⟩ | ⟨hlt, h2⟩
    · exact hM.fl m hm b (fun i x hx hlx hL => h i x hx hlx (.inl hL)) l hl l2 h2
    · have hjm : j < m := h j o hj hlt (.inr rfl)
      obtain ⟨l3, h3⟩ := true_up hst hjm hm h2
      rw [hl] at h3; cases h3

theorem Mind.eqvW (hM : Mind G ops σs L σE) (hk : kindOf o.op = 2) (hs : isSt o = false) : Eqv σE (σs j) := by
  have hjs := lt_size hst hj hnj ord1 ord2
  have hall := cons_all hj hnj ord1 ord2 hk hs
  refine ⟨hM.n.trans (n_up hst (Nat.le_of_lt hjs)).symm, fun t => hM.get t j (Nat.le_of_lt hjs) fun i hi _ => hall i hi, fun b => hM.ct b j (Nat.le_of_lt hjs) fun i hi _ => hall i hi, fun b l hl => ?_⟩
  have h1 := hM.ct b j (Nat.le_of_lt hjs) fun i hi _ => hall i hi
  have h2 := hM.fl j (Nat.le_of_lt hjs) b (fun i x hx _ hL => (hall i (by rcases Nat.lt_or_ge i ops.size with h | h <;> simp_all)).1 hL) l hl
  unfold Ev.ct at h1
  rw [hl] at h1
  simp only [Option.map_some, Option.map_eq_some_iff] at h1
  obtain ⟨y, hy, e⟩ := h1
  obtain ⟨fr, l3⟩ := y
  cases fr with
  | true => exact absurd hy (h2 l3)
  | false => exact ⟨l3, hy⟩

theorem Mind.stepW (hk : kindOf o.op = 2) (hs : isSt o = false) {σE' : St} (he : Eqv σE' (σs (j + 1))) : Mind G ops σs (fun i => L i ∨ i = j) σE' := by
  have hjs := lt_size hst hj hnj ord1 ord2
  have hall := cons_all hj hnj ord1 ord2 hk hs
  have hall' : ∀ i, i < ops.size → ((L i ∨ i = j) ↔ i < j + 1) := by
    intro i hi
    rw [hall i hi]
    omega
  refine ⟨he.n.trans (n_up hst hjs), fun t m hm h => ?_, fun b m hm h => ?_, fun m hm b h l hl l' h0 => ?_⟩
  · rw [he.get]
    rcases Nat.le_total (j + 1) m with hle | hle
    · refine (get_up hst hle hm fun i h1 h2 ht => ?_).symm
      have := (hall' i (by omega)).1 ((h i (by omega) ht).2 h2)
      omega
    · refine get_up hst hle hjs fun i h1 h2 ht => ?_
      have := (h i (by omega) ht).1 ((hall' i (by omega)).2 h2)
      omega
  · have hct : Ev.ct σE' b = Ev.ct (σs (j + 1)) b := he.ct b
    rw [hct]
    rcases Nat.le_total (j + 1) m with hle | hle
    · refine (ct_up hst hle hm fun i h1 h2 ht => ?_).symm
      have := (hall' i (by omega)).1 ((h i (by omega) ht).2 h2)
      omega
    · refine ct_up hst hle hjs fun i h1 h2 ht => ?_
      have := (h i (by omega) ht).1 ((hall' i (by omega)).2 h2)
      omega
  · have hjm : j < m := h j o hj ⟨by rw [hk]; decide, fun e => by rw [hk] at e; cases e⟩ (.inr rfl)
    have hct := he.ct b
    rw [h0] at hct
    cases hb : lk (σs (j + 1)).heap b with
    | none => rw [hb] at hct; cases hct
    | some y =>
      obtain ⟨fr, l2⟩ := y
      cases fr with
      | false =>
        obtain ⟨l3, h3⟩ := he.fl b l2 hb
        rw [h0] at h3; cases h3
      | true =>
        obtain ⟨l3, h3⟩ := true_up hst hjm hm ⟨l2, hb⟩
        rw [hl] at h3; cases h3
/-- What a store's block holds, and all others, is as in the text. -/
theorem Mind.ctS (hM : Mind G ops σs L σE) (hs : isSt o = true) (b : Nat) : Ev.ct σE b = Ev.ct (σs j) b := by
  have hjs := lt_size hst hj hnj ord1 ord2
  refine hM.ct b j (Nat.le_of_lt hjs) fun i hi ⟨x, hx, hxt⟩ => ?_
  have hc : confl rf ops i x j o = true := by
    refine (confl_wr (isSt_spec hs).1 (.inr (.inl ?_))).2
    rcases hxt with hxt | hxt
    · rw [hxt.1]; decide
    · rw [hxt.1]; decide
  rcases Nat.lt_trichotomy i j with h | h | h
  · exact ⟨fun _ => h, fun _ => ord1 i x h hx hc⟩
  · subst h; exact ⟨fun h => absurd h hnj, fun h => absurd h (Nat.lt_irrefl _)⟩
  · exact ⟨fun hL => absurd hL (ord2 i x h hx hc), fun h' => by omega⟩
theorem Mind.stepS (hM : Mind G ops σs L σE) (hs : isSt o = true) {σE' : St} (hn : σE'.n = σE.n) (hget : ∀ t, σE'.get t = σE.get t) (hct : ∀ b, Ev.ct σE' b = Ev.ct (σs (j + 1)) b)
    (hfl : ∀ b l', lk σE'.heap b = some (true, l') → ∃ l, lk σE.heap b = some (true, l)) : Mind G ops σs (fun i => L i ∨ i = j) σE' := by
  have hjs := lt_size hst hj hnj ord1 ord2
  obtain ⟨hk, hd, _⟩ := isSt_spec hs
  refine ⟨hn.trans hM.n, fun t m hm h => ?_, fun b m hm h => ?_, fun m hm b h l hl l' h0 => ?_⟩
  · rw [hget t]
    refine hM.get t m hm fun i hi htc => ?_
    have := h i hi htc
    have hne : i ≠ j := by
      rintro rfl
      obtain ⟨x, hx, hxt⟩ := htc
      rw [hj] at hx; cases hx
      rcases hxt with hxt | hxt
      · rw [hd] at hxt; cases hxt
      · rw [hs] at hxt; exact absurd hxt.2 (by decide)
    exact ⟨fun hL => this.1 (.inl hL), fun hlt => (this.2 hlt).resolve_right hne⟩
  · by_cases htb : stb G o (σs j) b
    · rw [hct b]
      have hjm : j < m := (h j hjs ⟨o, hj, .inl ⟨hk, fun _ => htb⟩⟩).1 (.inr rfl)
      refine (ct_up hst hjm hm fun i h1 h2 htc => ?_).symm
      obtain ⟨x, hx, hxt⟩ := htc
      have hL := (h i (by omega) ⟨x, hx, hxt⟩).2 h2
      rcases hL with hL | hL
      · refine ord2 i x (by omega) hx ((confl_wr hk (.inr (.inl ?_))).2) hL
        rcases hxt with hxt | hxt
        · rw [hxt.1]; decide
        · rw [hxt.1]; decide
      · omega
    · rw [hct b, step_ct (hst j o hj) (fun e => htb (e.2 hs)) (fun e => by rw [hk] at e; exact absurd e.1 (by decide)), ← Mind.ctS hst hj hnj ord1 ord2 hM hs b]
      refine hM.ct b m hm fun i hi htc => ?_
      have := h i hi htc
      have hne : i ≠ j := by
        rintro rfl
        obtain ⟨x, hx, hxt⟩ := htc
        rw [hj] at hx; cases hx
        rcases hxt with hxt | hxt
        · exact htb (hxt.2 hs)
        · rw [hk] at hxt; exact absurd hxt.1 (by decide)
      exact ⟨fun hL => this.1 (.inl hL), fun hlt => (this.2 hlt).resolve_right hne⟩
  · obtain ⟨l2, h2⟩ := hfl b l' h0
    exact hM.fl m hm b (fun i x hx hlx hL => h i x hx hlx (.inl hL)) l hl l2 h2
end
end Go.Ev

namespace Go.Ev
open Go
section
variable {T : Tab} {P : Program} {G : Glob} {rf : Nat → Nat → Bool} {ops : Array Oper} {σs : Nat → St}
variable {w0 : World} {M : Own} {S0 : Imm} {a : Act} {w : World} {β : Own} {S : Imm} {L : Nat → Prop} {σE : St} {j : Nat} {o : Oper}

theorem wanted_yes (h : Rel G w0 M S0 σE a w β S) (hg : guardYes ops o σE) : Region.wanted o (yielded ops a.tmps) = true := by
  rcases hg with hg | ⟨k, want, g, h1, h2, h3⟩
  · simp [Region.wanted, hg]
  · have hv := h.get g
    rw [h3] at hv
    simp only [AR, DR] at hv
    have hy : yielded ops a.tmps k = some want := by
      unfold yielded
      unfold gtmp at h2
      rw [h2]
      rw [Array.getD_eq_getD_getElem?] at hv
      cases hq : a.tmps[g]? with
      | none => rw [hq] at hv; simp [undef] at hv
      | some u => rw [hq] at hv; simp at hv; simp [hq, hv]
    simp [Region.wanted, h1, hy]
theorem wanted_no (h : Rel G w0 M S0 σE a w β S) (hg : guardNo ops o σE) : Region.wanted o (yielded ops a.tmps) = false := by
  obtain ⟨k, want, g, h1, h2, h3⟩ := hg
  have hv := h.get g
  rcases h3 with h3 | h3
  · rw [h3] at hv
    simp only [AR, DR] at hv
    have hy : yielded ops a.tmps k = some (!want) := by
      unfold yielded
      unfold gtmp at h2
      rw [h2]
      rw [Array.getD_eq_getD_getElem?] at hv
      cases hq : a.tmps[g]? with
      | none => rw [hq] at hv; simp [undef] at hv
      | some u => rw [hq] at hv; simp at hv; simp [hq, hv]
    simp only [Region.wanted, h1, hy]
    cases want <;> rfl
  · rw [h3] at hv
    simp only [AR, DR, DRs] at hv
    obtain ⟨vs, hv, hvs⟩ := hv
    have hy : yielded ops a.tmps k = none := by
      unfold yielded
      unfold gtmp at h2
      rw [h2]
      rw [Array.getD_eq_getD_getElem?] at hv
      cases hq : a.tmps[g]? with
      | none => simp [hq]
      | some u => rw [hq] at hv; simp at hv; subst hv; simp [hq]
    simp [Region.wanted, h1, hy]

mutual
theorem AR_refs : ∀ {x : A} {v : Value} {b : Nat}, AR β S w x v → refs1 x b → β b ≠ none
  | .ptr c o, v, b, h, hr => by
    simp only [refs1] at hr
    subst hr
    simp only [AR] at h
    obtain ⟨k, hk, _⟩ := h
    rw [hk]; simp
  | .own c o n sz, v, b, h, hr => by
    simp only [refs1] at hr
    subst hr
    simp only [AR] at h
    rcases h with ⟨k, hk, _⟩ | ⟨_, hk, _⟩
    · rw [hk]; simp
    · exact hk
  | .d _, v, b, h, hr => by simp only [refs1] at hr
  | .elem _, v, b, h, hr => by simp only [refs1] at hr
  | .agg l, v, b, h, hr => by
    simp only [refs1] at hr
    simp only [AR] at h
    obtain ⟨vs, _, h⟩ := h
    exact ARs_refs h hr
  | .fn _ l, v, b, h, hr => by
    simp only [refs1] at hr
    simp only [AR] at h
    obtain ⟨vs, _, h⟩ := h
    exact ARs_refs h hr
theorem ARs_refs : ∀ {l : List A} {vs : List Value} {b : Nat}, ARs β S w l vs → refs1s l b → β b ≠ none
  | [], vs, b, _, hr => by simp only [refs1s] at hr
  | x :: l, vs, b, h, hr => by
    simp only [ARs] at h
    obtain ⟨u, us, _, h1, h2⟩ := h
    simp only [refs1s] at hr
    rcases hr with hr | hr
    · exact AR_refs h1 hr
    · exact ARs_refs h2 hr
end
theorem refs_known (h : Rel G w0 M S0 σE a w β S) {x : Operand} {b : Nat} (hr : refs1 (σE.ev G x) b) : lk σE.heap b ≠ none :=
  h.keys b (AR_refs (h.ev x) hr)

theorem looks_tmp {t : Nat} (h : Operand.tmp t ∈ o.op.operands) : t ∈ o.looksAt ops := by
  unfold Oper.looksAt
  refine List.mem_append.2 (.inl ?_)
  exact List.mem_filterMap.2 ⟨.tmp t, by simpa using h, rfl⟩
theorem looks_guard {k g : Nat} {want : Bool} (h : o.guard = some (k, want)) (hg : gtmp ops k = some g) : g ∈ o.looksAt ops := by
  unfold Oper.looksAt
  refine List.mem_append.2 (.inr ?_)
  unfold gtmp at hg
  simp [h, hg]

variable (hst : ∀ i o, ops[i]? = some o → StepAt P G T ops o (σs i) (σs (i + 1)))
variable (hsp : ∀ k o, ops[k]? = some o → (∀ p ∈ predsOf o, p < k) ∧ ∀ i x, i < k → ops[i]? = some x → confl rf ops i x k o = true → Anc ops k i)
variable (hcl : ∀ k o, L k → ops[k]? = some o → ∀ p ∈ predsOf o, L p)
variable (hrf : ∀ i j x y b, ops[i]? = some x → ops[j]? = some y → rf i j = true → stb G x (σs i) b → refsO G y (σs j) b → False)

theorem anc_closed (hcl : ∀ k o, L k → ops[k]? = some o → ∀ p ∈ predsOf o, L p) {k i : Nat} (h : Anc ops k i) : L k → L i := by
  induction h with
  | one h hi => exact fun hk => hcl _ _ hk h _ hi
  | more h hp ha ih => exact fun hk => ih (hcl _ _ hk h _ hp)
theorem anc_ready (hcl : ∀ k o, L k → ops[k]? = some o → ∀ p ∈ predsOf o, L p) {k i : Nat} (h : Anc ops k i) (hr : ∀ o, ops[k]? = some o → ∀ p ∈ predsOf o, L p) : L i := by
  cases h with
  | one h hi => exact hr _ h _ hi
  | more h hp ha => exact anc_closed hcl ha (hr _ h _ hp)

variable (hj : ops[j]? = some o) (hnj : ¬ L j) (hr : ∀ p ∈ predsOf o, L p)

include hsp hcl hj hr in
theorem ord1_of : ∀ i x, i < j → ops[i]? = some x → confl rf ops i x j o = true → L i := fun i x hi hx hc =>
  anc_ready hcl ((hsp j o hj).2 i x hi hx hc) (fun o' ho' => by rw [hj] at ho'; cases ho'; exact hr)
include hsp hcl hj hnj in
theorem ord2_of : ∀ i x, j < i → ops[i]? = some x → confl rf ops i x j o = true → ¬ L i := fun i x hi hx hc hL =>
  hnj (anc_closed hcl ((hsp i x hx).2 j o hi hj (confl_comm hc)) hL)

include hsp hcl hj hnj hr in
theorem same_of (hM : Mind G ops σs L σE) : Same G o (σs j) σE := by
  intro x hx
  cases x with
  | tmp t =>
    have hjs : j < ops.size := by
      rcases Nat.lt_or_ge j ops.size with h | h
      · exact h
      · simp [Array.getElem?_eq_none h] at hj
    exact hM.get t j (Nat.le_of_lt hjs) (cons_at hj hnj (ord1_of hsp hcl hj hr) (ord2_of hsp hcl hj hnj) (.inl (looks_tmp hx)))
  | _ => rfl
include hsp hcl hj hnj hr in
theorem guardYes_of (hM : Mind G ops σs L σE) (hg : guardYes ops o (σs j)) : guardYes ops o σE := by
  have hjs : j < ops.size := by
    rcases Nat.lt_or_ge j ops.size with h | h
    · exact h
    · simp [Array.getElem?_eq_none h] at hj
  rcases hg with hg | ⟨k, want, g, h1, h2, h3⟩
  · exact .inl hg
  · refine .inr ⟨k, want, g, h1, h2, ?_⟩
    rw [hM.get g j (Nat.le_of_lt hjs) (cons_at hj hnj (ord1_of hsp hcl hj hr) (ord2_of hsp hcl hj hnj) (.inl (looks_guard h1 h2)))]
    exact h3
include hsp hcl hj hnj hr in
theorem guardNo_of (hM : Mind G ops σs L σE) (hg : guardNo ops o (σs j)) : guardNo ops o σE := by
  have hjs : j < ops.size := by
    rcases Nat.lt_or_ge j ops.size with h | h
    · exact h
    · simp [Array.getElem?_eq_none h] at hj
  obtain ⟨k, want, g, h1, h2, h3⟩ := hg
  refine ⟨k, want, g, h1, h2, ?_⟩
  rw [hM.get g j (Nat.le_of_lt hjs) (cons_at hj hnj (ord1_of hsp hcl hj hr) (ord2_of hsp hcl hj hnj) (.inl (looks_guard h1 h2)))]
  exact h3

/-- What made a key: before, none; behind, one. -/
theorem made {i b : Nat} {x : Oper} (hst : ∀ i o, ops[i]? = some o → StepAt P G T ops o (σs i) (σs (i + 1))) (hx : ops[i]? = some x) (h : kindOf x.op = 1 ∧ x.dst = some b ∧ guardYes ops x (σs i)) :
    lk (σs i).heap b = none ∧ lk (σs (i + 1)).heap b ≠ none := by
  obtain ⟨τ0, hs, _, _, hh⟩ := hst i x hx
  cases hs with
  | skip hg _ => exact (guard_not_both h.2.2 hg).elim
  | lt hg hl _ _ _ => rw [lite_kind hl] at h; exact absurd h.1 (by decide)
  | st hg hs _ _ _ _ _ _ => rw [(isSt_spec hs).1] at h; exact absurd h.1 (by decide)
  | val hg hk _ _ _ _ => rw [h.1] at hk; cases hk
  | call hg hk _ _ _ _ _ _ _ => rw [h.1] at hk; cases hk
  | wr hg hk _ _ _ _ _ _ => rw [h.1] at hk; cases hk
  | new hg hk d hd r l hf he t =>
    rw [h.2.1] at hd; cases hd
    refine ⟨hf, ?_⟩
    rw [hh, he]
    simp [St.put, St.new, lk]

include hst hsp hcl hj hnj hr hrf in
theorem reach_of (hrel : Rel G w0 M S0 σE a w β S) (hM : Mind G ops σs L σE) (hk1 : kindOf o.op ≠ 1) (hk2 : kindOf o.op ≠ 2) (hlt : lite o = false) : Reach G o (σs j) σE := by
  intro x hx b hrf' fr l hl
  have hsame := same_of (G := G) hsp hcl hj hnj hr hM x hx
  have hne := refs_known (G := G) hrel (x := x) (b := b) (by rw [hsame]; exact hrf')
  have ord1 := ord1_of hsp hcl hj hr
  have ord2 := ord2_of hsp hcl hj hnj
  have hjs : j < ops.size := by
    rcases Nat.lt_or_ge j ops.size with h | h
    · exact h
    · simp [Array.getElem?_eq_none h] at hj
  have hl' : lk (σs j).heap b = some (fr, l) := hl
  have hcw : ∀ i y, ops[i]? = some y → (kindOf y.op = 2 ∧ (isSt y = true → stb G y (σs i) b)) → confl rf ops i y j o = true := fun i y hy hyt => by
    refine (confl_wr hyt.1 ?_).1
    cases hs : isSt y with
    | false => exact .inl rfl
    | true =>
      refine .inr (.inr ⟨hlt, ?_⟩)
      cases hq : rf i j with
      | false => rfl
      | true => exact (hrf i j y o b hy hj hq (hyt.2 hs) ⟨x, hx, hrf'⟩).elim
  -- what made the key behind has made it
  have hall : ∀ i x, i < j → ops[i]? = some x → (kindOf x.op = 1 ∧ x.dst = some b ∧ guardYes ops x (σs i)) → L i := by
    intro i0 x0 hi0 hx0 hm0
    refine Classical.byContradiction fun hn0 => ?_
    obtain ⟨hnone, hsome⟩ := made hst hx0 hm0
    have hcons : ∀ i, i < ops.size → touchC G ops σs i b → (L i ↔ i < i0) := by
      rintro i hi ⟨y, hy, hyt⟩
      rcases Nat.lt_trichotomy i i0 with h | h | h
      · refine ⟨fun _ => h, fun _ => ?_⟩
        rcases hyt with hyt | hyt
        · exact ord1 i y (by omega) hy (hcw i y hy hyt)
        · obtain ⟨_, h2⟩ := made hst hy hyt
          exact absurd hnone (keys_up hst (a := i + 1) (by omega) (by omega) h2)
      · subst h
        exact ⟨fun h => absurd h hn0, fun h => absurd h (Nat.lt_irrefl _)⟩
      · refine ⟨fun hL => ?_, fun h' => by omega⟩
        exfalso
        rcases hyt with hyt | hyt
        · have hc : confl rf ops i0 x0 i y = true := (confl_wr hyt.1 (.inr (.inl (by rw [hm0.1]; decide)))).2
          exact hn0 (anc_closed hcl ((hsp i y hy).2 i0 x0 h hx0 hc) hL)
        · obtain ⟨h1, _⟩ := made hst hy hyt
          exact absurd h1 (keys_up hst (a := i0 + 1) (by omega) (by omega) hsome)
    have := hM.ct b i0 (by omega) hcons
    unfold ct at this
    rw [hnone] at this
    exact hne (by simpa using this)
  have hcons : ∀ i, i < ops.size → touchC G ops σs i b → (L i ↔ i < j) := by
    rintro i hi ⟨y, hy, hyt⟩
    rcases Nat.lt_trichotomy i j with h | h | h
    · refine ⟨fun _ => h, fun _ => ?_⟩
      rcases hyt with hyt | hyt
      · exact ord1 i y h hy (hcw i y hy hyt)
      · exact hall i y h hy hyt
    · subst h
      rw [hj] at hy; cases hy
      rcases hyt with hyt | hyt
      · exact absurd hyt.1 hk2
      · exact absurd hyt.1 hk1
    · refine ⟨fun hL => ?_, fun h' => by omega⟩
      exfalso
      rcases hyt with hyt | hyt
      · exact ord2 i y h hy (hcw i y hy hyt) hL
      · obtain ⟨h1, _⟩ := made hst hy hyt
        exact absurd h1 (keys_up hst (a := j) (Nat.le_of_lt h) (by omega) (by rw [hl']; simp))
  have := hM.ct b j (Nat.le_of_lt hjs) hcons
  unfold ct at this
  rw [hl'] at this
  simp only [Option.map_some, Option.map_eq_some_iff] at this
  obtain ⟨y, hy, e⟩ := this
  obtain ⟨fr', l'⟩ := y
  exact ⟨fr', by rw [← e]; exact hy⟩

include hsp hcl hj hnj hr in
theorem none_of (hM : Mind G ops σs L σE) {d : Nat} (hk : kindOf o.op = 1) (hd : o.dst = some d) (hn : lk (σs j).heap d = none) : lk σE.heap d = none := by
  have ord1 := ord1_of hsp hcl hj hr
  have ord2 := ord2_of hsp hcl hj hnj
  have hjs : j < ops.size := by
    rcases Nat.lt_or_ge j ops.size with h | h
    · exact h
    · simp [Array.getElem?_eq_none h] at hj
  have hcons : ∀ i, i < ops.size → touchC G ops σs i d → (L i ↔ i < j) := by
    rintro i hi ⟨y, hy, hyt⟩
    have hc : confl rf ops i y j o = true := by
      rcases hyt with hyt | hyt
      · exact (confl_wr hyt.1 (.inr (.inl (by rw [hk]; decide)))).1
      · exact confl_of_touch (.inl hyt.2.1) (.inr hd)
    rcases Nat.lt_trichotomy i j with h | h | h
    · exact ⟨fun _ => h, fun _ => ord1 i y h hy hc⟩
    · subst h; exact ⟨fun h => absurd h hnj, fun h => absurd h (Nat.lt_irrefl _)⟩
    · exact ⟨fun hL => absurd hL (ord2 i y h hy hc), fun h' => by omega⟩
  have := hM.ct d j (Nat.le_of_lt hjs) hcons
  unfold ct at this
  rw [hn] at this
  simpa using this

/-- ONE STEP, OUT OF ORDER. -/
theorem step_any (hT : TabOk P T) (hst : ∀ i o, ops[i]? = some o → StepAt P G T ops o (σs i) (σs (i + 1)))
    (hsp : ∀ k o, ops[k]? = some o → (∀ p ∈ predsOf o, p < k) ∧ ∀ i x, i < k → ops[i]? = some x → confl rf ops i x k o = true → Anc ops k i)
    (hrf : ∀ i j x y b, ops[i]? = some x → ops[j]? = some y → rf i j = true → stb G x (σs i) b → refsO G y (σs j) b → False)
    (hcl : ∀ k o, L k → ops[k]? = some o → ∀ p ∈ predsOf o, L p) (hj : ops[j]? = some o) (hnj : ¬ L j) (hr : ∀ p ∈ predsOf o, L p)
    (hdst : ∀ d, o.dst = some d → d < σE.n) (hrel : Rel G w0 M S0 σE a w β S) (hM : Mind G ops σs L σE) {K : Act → World → Prop} {Q : Exit → Act → World → Prop}
    (hK : ∀ a w σ' β S, Rel G w0 M S0 σ' a w β S → Mind G ops σs (fun i => L i ∨ i = j) σ' → K a w) : wpOp P ops Q j K a w := by
  have ord1 := ord1_of hsp hcl hj hr
  have ord2 := ord2_of hsp hcl hj hnj
  have hsame := same_of (G := G) hsp hcl hj hnj hr hM
  obtain ⟨τ, hs, e1, e2, hh⟩ := hst j o hj
  have hfin : ∀ {K' : St → Prop}, evOp P G T σE o K' → guardYes ops o (σs j) → (∀ σ', K' σ' → Mind G ops σs (fun i => L i ∨ i = j) σ') → wpOp P ops Q j K a w := by
    intro K' hev hg hm
    refine wpOp_of_wp hj (wanted_yes hrel (guardYes_of hsp hcl hj hnj hr hM hg)) (Oper.wp_mono ?_ (evOp_sound hT hrel hdst hev Q))
    rintro a' w' ⟨σ2, β2, S2, hK2, h2, _⟩
    exact hK a' w' σ2 β2 S2 h2 (hm σ2 hK2)
  cases hs with
  | skip hg h =>
    have hw := wanted_no hrel (guardNo_of hsp hcl hj hnj hr hM hg)
    have hrel' := put_undef hrel o.dst hdst
    simp only [wpOp, hj, hw, Bool.false_eq_true, if_false]
    refine hK _ _ _ _ _ hrel' ?_
    by_cases hss : isSt o = true
    · obtain ⟨_, hd, _⟩ := isSt_spec hss
      rw [hd]
      refine Mind.stepS hst hj hnj ord1 ord2 hM hss rfl (fun _ => rfl) (fun b => ?_) (fun b l' hl => ⟨l', hl⟩)
      show Ev.ct σE b = _
      rw [Mind.ctS hst hj hnj ord1 ord2 hM hss b]
      unfold ct
      rw [hh, h, put_heap]
    have hss : isSt o = false := by simpa using hss
    by_cases hk : kindOf o.op = 2
    · refine Mind.stepW hst hj hnj ord1 ord2 hk hss ?_
      have he := (Mind.eqvW hst hj hnj ord1 ord2 hM hk hss).put o.dst (.d (.tup []))
      rw [← h] at he
      exact he.trans e1
    · refine Mind.step hst hj hnj ord1 ord2 hM hk (put_n _ _ _) (fun t ht => ?_) (fun t ht => put_get_ne ht) (fun b hb => (guard_not_both hb.2.2 hg).elim) (fun b _ => by simp only [ct, put_heap]) (fun b l' hl => .inl ⟨l', by rw [put_heap] at hl; exact hl⟩)
      rw [e2.get, h, ht, get_put, if_pos rfl, get_put, if_pos rfl]
  | lt hg hl r h t =>
    have hk := lite_kind hl
    refine hfin (K' := fun σ' => σ' = σE.put o.dst r) (t σE _ hsame rfl) hg ?_
    rintro σ' rfl
    refine Mind.step hst hj hnj ord1 ord2 hM (by rw [hk]; decide) (put_n _ _ _) (fun t ht => ?_) (fun t ht => put_get_ne ht) (fun b hb => by rw [hk] at hb; exact absurd hb.1 (by decide)) (fun b _ => by simp only [ct, put_heap]) (fun b l' hl => .inl ⟨l', by rw [put_heap] at hl; exact hl⟩)
    rw [e2.get, h, ht, get_put, if_pos rfl, get_put, if_pos rfl]
  | st hg hs b l row hb h t hstb =>
    have hcb := Mind.ctS hst hj hnj ord1 ord2 hM hs
    have hjs := lt_size hst hj hnj ord1 ord2
    have hfr : lk σE.heap b = some (false, l) := by
      have h1 := hcb b
      unfold ct at h1
      rw [hb] at h1
      simp only [Option.map_some, Option.map_eq_some_iff] at h1
      obtain ⟨y, hy, e⟩ := h1
      obtain ⟨fr, l3⟩ := y
      cases fr with
      | false => rw [hy, ← e]
      | true =>
        exfalso
        refine hM.fl j (Nat.le_of_lt hjs) b (fun i x hx hlx hL => ?_) l hb l3 hy
        rcases Nat.lt_trichotomy i j with hij | hij | hij
        · exact hij
        · subst hij; exact absurd hL hnj
        · by_cases h3 : kindOf x.op = 3
          · have hlt : lite x = false := by
              cases hl : lite x with
              | false => rfl
              | true => have := lite_kind hl; rw [h3] at this; cases this
            cases hq : rf j i with
            | true => exact (hrf j i o x b hj hx hq hstb (hlx.2 h3)).elim
            | false => exact absurd hL (ord2 i x hij hx (confl_wr (isSt_spec hs).1 (.inr (.inr ⟨hlt, hq⟩))).2)
          · exact absurd hL (ord2 i x hij hx (confl_wr (isSt_spec hs).1 (.inr (.inl ⟨hlx.1, h3⟩))).2)
    refine hfin (K' := fun σ' => σ' = σE.wr b row) (t σE _ hsame hfr rfl) hg ?_
    rintro σ' rfl
    refine Mind.stepS hst hj hnj ord1 ord2 hM hs rfl (fun _ => rfl) (fun b' => ?_) (fun b' l' hl => ?_)
    · have h1 := hcb b'
      unfold ct at h1 ⊢
      rw [hh, h, wr_lk, wr_lk]
      split
      · rename_i e; subst e
        rw [hfr, hb]
      · exact h1
    · rw [wr_lk] at hl
      split at hl
      · rename_i e; subst e
        rw [hfr] at hl; cases hl
      · exact ⟨l', hl⟩
  | val hg hk hlt r h t =>
    refine hfin (K' := fun σ' => σ' = σE.put o.dst r) (t σE _ hsame (reach_of hst hsp hcl hrf hj hnj hr hrel hM (by rw [hk]; decide) (by rw [hk]; decide) hlt) rfl) hg ?_
    rintro σ' rfl
    refine Mind.step hst hj hnj ord1 ord2 hM (by rw [hk]; decide) (put_n _ _ _) (fun t ht => ?_) (fun t ht => put_get_ne ht) (fun b hb => by rw [hk] at hb; exact absurd hb.1 (by decide)) (fun b _ => by simp only [ct, put_heap]) (fun b l' hl => .inl ⟨l', by rw [put_heap] at hl; exact hl⟩)
    rw [e2.get, h, ht, get_put, if_pos rfl, get_put, if_pos rfl]
  | new hg hk d hd r l hf h t =>
    refine hfin (K' := fun σ' => σ' = (σE.new d l).put (some d) r) (t σE _ hsame (none_of hsp hcl hj hnj hr hM hk hd hf) rfl) hg ?_
    rintro σ' rfl
    refine Mind.step hst hj hnj ord1 ord2 hM (by rw [hk]; decide) (put_n _ _ _) (fun t ht => ?_) (fun t ht => ?_) (fun b hb => ?_) (fun b hb => ?_) (fun b l' hl => .inl ?_)
    · rw [hd] at ht; cases ht
      rw [e2.get, h, get_put, if_pos rfl, get_put, if_pos rfl]
    · rw [put_get_ne (by rw [← hd]; exact ht)]; rfl
    · have hbd : d = b := by have := hb.2.1; rw [hd] at this; cases this; rfl
      subst hbd
      show (lk _ _).map _ = (lk _ _).map _
      rw [hh, h]
      simp [St.put, St.new, lk]
    · have hbd : ¬ d = b := fun e => hb ⟨hk, by rw [hd, e], hg⟩
      show (lk _ _).map _ = (lk _ _).map _
      simp only [put_heap, St.new, lk]
      rw [if_neg hbd]
    · simp only [put_heap, St.new, lk] at hl
      split at hl
      · cases hl
      · exact ⟨l', hl⟩
  | call hg hk fresh r bs hb hbr h t =>
    refine hfin (K' := fun σ' => σ' = (if fresh then σE else σE.freeze bs).put o.dst r) (t σE _ hsame (reach_of hst hsp hcl hrf hj hnj hr hrel hM (by rw [hk]; decide) (by rw [hk]; decide) (by cases hl : lite o with | false => rfl | true => have := lite_kind hl; rw [hk] at this; cases this)) rfl) hg ?_
    rintro σ' rfl
    refine Mind.step hst hj hnj ord1 ord2 hM (by rw [hk]; decide) ?_ (fun t ht => ?_) (fun t ht => ?_) (fun b hb => by rw [hk] at hb; exact absurd hb.1 (by decide)) (fun b _ => ?_) (fun b l' hl => ?_)
    · rw [put_n]; cases fresh
      · exact freeze_n _ _
      · rfl
    · rw [e2.get, h, ht, get_put, if_pos rfl, get_put, if_pos rfl]
    · rw [put_get_ne ht]; cases fresh
      · exact freeze_get _ _ _
      · rfl
    · simp only [ct, put_heap]
      cases fresh
      · simp only [Bool.false_eq_true, if_false, freeze_lk, Option.map_map]; rfl
      · rfl
    · rw [put_heap] at hl
      cases fresh with
      | true => exact .inl ⟨l', hl⟩
      | false =>
        simp only [Bool.false_eq_true, if_false, freeze_lk, Option.map_eq_some_iff] at hl
        obtain ⟨y, hy, e⟩ := hl
        obtain ⟨fr, l2⟩ := y
        simp only [Prod.mk.injEq] at e
        obtain ⟨e3, rfl⟩ := e
        cases fr with
        | true => exact .inl ⟨l2, hy⟩
        | false =>
          simp only [Bool.false_or, List.contains_iff_mem] at e3
          refine .inr ⟨⟨by rw [hk]; decide, fun _ => hbr b e3⟩, ?_⟩
          rw [hh, h, put_heap]
          simp only [Bool.false_eq_true, if_false, freeze_lk]
          cases hq : lk (σs j).heap b with
          | none => obtain ⟨fr', ds, hds⟩ := hb b e3; rw [hq] at hds; cases hds
          | some y =>
            obtain ⟨fr, l3⟩ := y
            exact ⟨l3, by simp [e3]⟩
  | wr hg hk hss hn mono keys fd t =>
    have he := Mind.eqvW hst hj hnj ord1 ord2 hM hk hss
    refine hfin (K' := fun σ' => Eqv σ' τ) (t σE _ he fun τ' h => h) hg fun σ' h => ?_
    exact Mind.stepW hst hj hnj ord1 ord2 hk hss (h.trans e1)

theorem ready_mem {listed : Array Bool} {i : Nat} : i ∈ Region.ready .any ops listed ↔ i < ops.size ∧ listed.getD i true = false ∧ ∀ o, ops[i]? = some o → ∀ p ∈ predsOf o, listed.getD p false = true := by
  unfold Region.ready
  simp only [List.mem_filter, List.mem_range, Bool.and_eq_true, Bool.not_eq_true']
  constructor
  · rintro ⟨h1, h2, h3⟩
    refine ⟨h1, h2, fun o ho p hp => ?_⟩
    rw [ho] at h3
    simp only [Option.map_some, Option.getD_some, Array.all_eq_true_iff_forall_mem] at h3
    obtain ⟨e, he, rfl⟩ := List.mem_map.1 hp
    obtain ⟨he1, he2⟩ := List.mem_filter.1 he
    have := h3 e (Array.mem_toList_iff.1 he1)
    simpa [he2] using this
  · rintro ⟨h1, h2, h3⟩
    refine ⟨h1, h2, ?_⟩
    obtain ⟨o, ho⟩ : ∃ o, ops[i]? = some o := ⟨ops[i], by simp [h1]⟩
    rw [ho]
    simp only [Option.map_some, Option.getD_some, Array.all_eq_true_iff_forall_mem]
    intro e he
    cases hb : Region.binds .any e with
    | false => rfl
    | true => simpa using h3 o ho e.on (List.mem_map.2 ⟨e, List.mem_filter.2 ⟨Array.mem_toList_iff.2 he, hb⟩, rfl⟩)

theorem getD_true {l : Array Bool} {i : Nat} (h : i < l.size) : l.getD i true = l.getD i false := by
  simp [Array.getD_eq_getD_getElem?, h]

theorem set_getD {l : Array Bool} {i k : Nat} (h : i < l.size) : (l.setIfInBounds i true).getD k false = true ↔ l.getD k false = true ∨ k = i := by
  simp only [Array.getD_eq_getD_getElem?, Array.getElem?_setIfInBounds]
  by_cases e : i = k
  · subst e; simp [h]
  · rw [if_neg e]
    exact ⟨.inl, fun hh => hh.resolve_right fun e' => e e'.symm⟩

def unlisted (n : Nat) (l : Array Bool) : Nat := ((List.range n).filter fun i => !l.getD i false).length
theorem unlisted_set {l : Array Bool} {n i : Nat} (hi : i < n) (hs : l.size = n) (h : l.getD i false = false) : unlisted n (l.setIfInBounds i true) + 1 = unlisted n l := by
  have key : ∀ (is : List Nat), is.Nodup → ((is.filter fun k => !(l.setIfInBounds i true).getD k false).length + (if i ∈ is then 1 else 0)) = (is.filter fun k => !l.getD k false).length := by
    intro is
    induction is with
    | nil => simp
    | cons k is ih =>
      intro hnd
      obtain ⟨hk, hnd⟩ := List.nodup_cons.1 hnd
      have ih := ih hnd
      by_cases e : k = i
      · subst e
        have h1 : (l.setIfInBounds k true).getD k false = true := (set_getD (by omega)).2 (.inr rfl)
        rw [if_neg hk] at ih
        simp only [List.filter_cons, h1, h, List.mem_cons, true_or, if_true]
        simp only [Bool.not_true, Bool.false_eq_true, if_false, Bool.not_false, if_true, List.length_cons]
        omega
      · have h1 : (l.setIfInBounds i true).getD k false = l.getD k false := by
          have := set_getD (l := l) (i := i) (k := k) (by omega)
          cases hq : l.getD k false <;> cases hp : (l.setIfInBounds i true).getD k false <;> simp_all
        have e3 : (if i ∈ k :: is then 1 else 0) = (if i ∈ is then 1 else 0) := by
          by_cases h2 : i ∈ is
          · rw [if_pos h2, if_pos (List.mem_cons_of_mem _ h2)]
          · rw [if_neg h2, if_neg fun hh => (List.mem_cons.1 hh).elim (fun e' => e e'.symm) h2]
        rw [e3]
        simp only [List.filter_cons, h1]
        split <;> (try simp only [List.length_cons]) <;> omega
  have := key (List.range n) List.nodup_range
  rw [if_pos (List.mem_range.2 hi)] at this
  exact this

/-- WHATEVER IS DRAWN. -/
theorem any_run (hT : TabOk P T) (hst : ∀ i o, ops[i]? = some o → StepAt P G T ops o (σs i) (σs (i + 1)))
    (hsp : ∀ k o, ops[k]? = some o → (∀ p ∈ predsOf o, p < k) ∧ ∀ i x, i < k → ops[i]? = some x → confl rf ops i x k o = true → Anc ops k i)
    (hrf : ∀ i j x y b, ops[i]? = some x → ops[j]? = some y → rf i j = true → stb G x (σs i) b → refsO G y (σs j) b → False)
    (hd : ∀ o ∈ ops.toList, ∀ d, o.dst = some d → d < (σs 0).n) {Q : Exit → Act → World → Prop}
    (hQ : ∀ a w σ' β S, Rel G w0 M S0 σ' a w β S → Eqv σ' (σs ops.size) → Q .normal a w) :
    ∀ (fuel : Nat) (listed : Array Bool) (a : Act) (w : World) (σE : St) (β : Own) (S : Imm), listed.size = ops.size → unlisted ops.size listed = fuel →
      (∀ k o, listed.getD k false = true → ops[k]? = some o → ∀ p ∈ predsOf o, listed.getD p false = true) →
      Rel G w0 M S0 σE a w β S → Mind G ops σs (fun i => listed.getD i false = true) σE → wpAny P .any ops Q fuel listed a w := by
  have hdone : ∀ (listed : Array Bool) (a : Act) (w : World) (σE : St) (β : Own) (S : Imm), listed.size = ops.size → Rel G w0 M S0 σE a w β S → Mind G ops σs (fun i => listed.getD i false = true) σE →
      Region.ready .any ops listed = [] → Q .normal a w := by
    intro listed a w σE β S hsz hrel hM hnil
    have hall : ∀ i, i < ops.size → listed.getD i false = true := by
      intro i
      induction i using Nat.strongRecOn with
      | _ i ih =>
        intro hi
        cases hl : listed.getD i false with
        | true => rfl
        | false =>
          exfalso
          have : i ∈ Region.ready .any ops listed := ready_mem.2 ⟨hi, by rw [getD_true (by omega)]; exact hl, fun o ho p hp => by
            have hlt := (hsp i o ho).1 p hp
            exact ih p hlt (by omega)⟩
          rw [hnil] at this
          cases this
    refine hQ a w σE β S hrel ⟨hM.n.trans (n_up hst (Nat.le_refl _)).symm, fun t => hM.get t _ (Nat.le_refl _) fun i hi _ => ⟨fun _ => hi, fun _ => hall i hi⟩, fun b => hM.ct b _ (Nat.le_refl _) fun i hi _ => ⟨fun _ => hi, fun _ => hall i hi⟩, fun b l hl => ?_⟩
    have h1 := hM.ct b _ (Nat.le_refl _) fun i hi _ => ⟨fun _ => hi, fun _ => hall i hi⟩
    have h2 := hM.fl _ (Nat.le_refl _) b (fun i x hx _ _ => (Array.getElem?_eq_some_iff.1 hx).1) l hl
    unfold ct at h1
    rw [hl] at h1
    simp only [Option.map_some, Option.map_eq_some_iff] at h1
    obtain ⟨y, hy, e⟩ := h1
    obtain ⟨fr, l3⟩ := y
    cases fr with
    | true => exact absurd hy (h2 l3)
    | false => exact ⟨l3, hy⟩
  intro fuel
  induction fuel with
  | zero =>
    intro listed a w σE β S hsz hu hcl hrel hM
    have hnil : Region.ready .any ops listed = [] := by
      refine List.eq_nil_iff_forall_not_mem.2 fun i hi => ?_
      obtain ⟨h1, h2, _⟩ := ready_mem.1 hi
      have : i ∈ (List.range ops.size).filter fun i => !listed.getD i false := List.mem_filter.2 ⟨List.mem_range.2 h1, by rw [← getD_true (by omega), h2]; rfl⟩
      unfold unlisted at hu
      rw [List.length_eq_zero_iff.1 hu] at this
      cases this
    exact ⟨hnil, hdone listed a w σE β S hsz hrel hM hnil⟩
  | succ fuel ih =>
    intro listed a w σE β S hsz hu hcl hrel hM
    refine ⟨hdone listed a w σE β S hsz hrel hM, fun i hi => ?_⟩
    obtain ⟨h1, h2, h3⟩ := ready_mem.1 hi
    rw [getD_true (by omega)] at h2
    obtain ⟨o, ho⟩ : ∃ o, ops[i]? = some o := ⟨ops[i], by simp [h1]⟩
    have hmem : o ∈ ops.toList := by
      have : ops.toList[i]? = some o := by simpa using ho
      exact List.mem_of_getElem? this
    refine step_any (L := fun i => listed.getD i false = true) hT hst hsp hrf hcl ho (by rw [h2]; simp) (h3 o ho) (fun d hd' => by rw [hM.n]; exact hd o hmem d hd') hrel hM ?_
    intro a' w' σ' β' S' hrel' hM'
    refine ih (listed.setIfInBounds i true) a' w' σ' β' S' (by simp [hsz]) (by have := unlisted_set h1 hsz h2; omega) ?_ hrel' ?_
    · intro k o' hk ho' p hp
      rw [set_getD (by omega)] at hk ⊢
      rcases hk with hk | rfl
      · exact .inl (hcl k o' hk ho' p hp)
      · exact .inl (h3 o' ho' p hp)
    · have : (fun k => (listed.setIfInBounds i true).getD k false = true) = fun k => listed.getD k false = true ∨ k = i := by
        funext k
        exact propext (set_getD (by omega))
      rw [this]
      exact hM'

theorem Eqv.hpn_rev {σ' τ : St} (h : Eqv σ' τ) {b : Nat} (hl : lk σ'.heap b = none) : lk τ.heap b = none := by
  have := h.ct b
  rw [hl] at this
  cases hb : lk τ.heap b with
  | none => rfl
  | some x => rw [hb] at this; cases this
/-- The same state, but for what is shared out: it may be shared out here too. -/
theorem Rel.toEqv {σ' τ : St} (h : Rel G w0 M S0 σ' a w β S) (he : Eqv σ' τ) (hfd : FD τ) : ∃ S', Rel G w0 M S0 τ a w β S' := by
  let bs := (τ.heap.map (·.1)).filter fun b => match lk τ.heap b with | some (true, _) => true | _ => false
  have hct : ∀ b fr l, lk τ.heap b = some (fr, l) → ∃ fr', lk σ'.heap b = some (fr', l) := fun b fr l hl => he.hp hl
  have hmem : ∀ (hp : List (Nat × Bool × List A)) (b : Nat) (x : Bool × List A), lk hp b = some x → b ∈ hp.map (·.1) := by
    intro hp
    induction hp with
    | nil => intro b x h; simp [lk] at h
    | cons y hp ih =>
      intro b x h
      obtain ⟨k, y⟩ := y
      simp only [lk] at h
      split at h
      · rename_i e; subst e; simp
      · exact List.mem_cons_of_mem _ (ih b x h)
  have hbs1 : ∀ b l, lk τ.heap b = some (true, l) → b ∈ bs := fun b l hl => List.mem_filter.2 ⟨hmem _ b _ hl, by simp [hl]⟩
  have hbs2 : ∀ b, b ∈ bs → ∃ l, lk τ.heap b = some (true, l) := by
    intro b hb
    have := (List.mem_filter.1 hb).2
    split at this
    · rename_i l hl; exact ⟨l, hl⟩
    · cases this
  have hfr := h.freeze (bs := bs) (fun b hb => by
    obtain ⟨l, hl⟩ := hbs2 b hb
    obtain ⟨ds, rfl⟩ := hfd b l hl
    obtain ⟨fr', h1⟩ := hct b _ _ hl
    exact ⟨fr', ds, h1⟩)
  have hflag : ∀ b fr l, lk τ.heap b = some (fr, l) → lk (σ'.freeze bs).heap b = some (fr, l) := by
    intro b fr l hl
    rw [freeze_lk]
    cases fr with
    | true =>
      obtain ⟨fr', h1⟩ := hct b _ _ hl
      have : bs.contains b = true := by simpa using hbs1 b l hl
      rw [h1]; simp only [Option.map_some, this, Bool.or_true]
    | false =>
      have h1 := he.hpf hl
      have h2 : lk σ'.heap b = some (false, l) := h1
      have : bs.contains b = false := by
        cases hc : bs.contains b with
        | false => rfl
        | true =>
          obtain ⟨l', h3⟩ := hbs2 b (by simpa using hc)
          rw [hl] at h3; cases h3
      rw [h2]; simp only [Option.map_some, this, Bool.or_false]
  refine ⟨_, { hfr with size := ?_, env := ?_, keys := ?_, rd := ?_, live := ?_, froz := ?_, fd := hfd, nilb := ?_, stay := fun b h1 h2 hb => h.stay b h1 h2 fun e => hb (he.hpn_rev e), small := by rw [← he.n]; exact h.small }⟩
  · rw [h.size, he.n]
  · intro t x hx
    have h1 := hfr.get t
    rw [freeze_get, he.get] at h1
    unfold St.get at h1
    rw [hx] at h1
    exact h1
  · intro b hb
    have h1 := h.keys b hb
    intro e
    exact h1 (he.hpn e)
  · exact fun b k fr l hb hl => hfr.rd b k fr l hb (hflag b fr l hl)
  · exact fun b k l hb hl => hfr.live b k l hb (hflag b _ l hl)
  · exact fun b k l hb hl => hfr.froz b k l hb (hflag b _ l hl)
  · exact fun b fr l hb hl => hfr.nilb b fr l hb (hflag b fr l hl)

/-- A REGION THAT DRAWS ITS ORDER. -/
theorem draw_soundR (hT : TabOk P T) (hm : P.follows .mixedOrders = true) {id : Nat} {σ : St} (hok : okDrawR T rf ops = true) (hd : ∀ o ∈ ops.toList, ∀ d, o.dst = some d → d < σ.n) {Q : Exit → Act → World → Prop} {K : St → Prop}
    (hR : ∀ τ, K τ → ∀ σs : Nat → St, (∀ i o, ops[i]? = some o → StepAt P G T ops o (σs i) (σs (i + 1))) → Eqv (σs ops.size) τ → ∀ i j x y b, ops[i]? = some x → ops[j]? = some y → rf i j = true → stb G x (σs i) b → refsO G y (σs j) b → False)
    (hQ : ∀ a w, Post G w0 M S0 σ.n K a w → Q .normal a w) (hrel : Rel G w0 M S0 σ a w β S) (h : evOps P G T ops ops.toList σ K) : (Code.region id ops true).wp P Q a w := by
  simp only [okDrawR, Bool.and_eq_true] at hok
  obtain ⟨hok1, hok2⟩ := hok
  obtain ⟨σs, h0, ⟨τ, hK, e1, e2⟩, hst0⟩ := trace_of ops.toList σ (fun o ho => List.all_eq_true.1 hok2 o ho) h
  have hst : ∀ i o, ops[i]? = some o → StepAt P G T ops o (σs i) (σs (i + 1)) := fun i o ho => hst0 i o (by simpa using ho)
  have hsp := fun k o => okFrom_spec (ops := ops) (masks_bit ops.toList [] (by simp) (by intro p i h; simp at h)) ops.toList 0 (by simp) hok1 k o (Nat.zero_le k)
  refine wp_region_any hm ?_
  have hdrew : Rel G w0 M S0 σ a { w with drawn := w.drawn + 1 } β S := hrel.olds (fun _ _ => rfl) rfl rfl rfl (Nat.le_refl _) (fun _ _ h => h) (fun _ _ h => .inl h)
  rw [← h0] at hdrew hd hQ
  refine any_run hT hst hsp (hR τ hK σs hst (by simpa using e1)) hd ?_ ops.size (Array.replicate ops.size false) a _ (σs 0) β S (by simp) ?_ ?_ hdrew ?_
  · intro a' w' σ' β' S' hr he
    have he2 : Eqv σ' τ := he.trans (by simpa using e1)
    have e3 : Eqv τ (σs ops.size) := by simpa using e2
    have hfd0 : FD (σs 0) := by
      intro b l hl
      rw [h0] at hl
      exact hrel.fd b l hl
    have hfdn : FD (σs ops.size) := by
      have := walk_up hst (Q := FD) (a := 0) (fun i o _ ho h => step_fd (hst i o ho) h) hfd0 ops.size (by omega)
      rwa [Nat.zero_add] at this
    have hfdt : FD τ := by
      intro b l hl
      have e4 : Eqv (σs ops.size) τ := by simpa using e1
      have hc := e3.ct b
      rw [hl] at hc
      cases hb : lk (σs ops.size).heap b with
      | none => rw [hb] at hc; cases hc
      | some y =>
        obtain ⟨fr, l2⟩ := y
        rw [hb] at hc
        simp only [Option.map_some, Option.some.injEq] at hc
        cases fr with
        | true => rw [hc]; exact hfdn b l2 hb
        | false =>
          obtain ⟨l3, h3⟩ := e3.fl b l2 hb
          rw [hl] at h3; cases h3
    obtain ⟨S2, hrel2⟩ := hr.toEqv he2 hfdt
    exact hQ a' w' ⟨τ, β', S2, hK, hrel2, by rw [e3.n, n_up hst (Nat.le_refl _)]⟩
  · unfold unlisted
    have : (List.range ops.size).filter (fun i => !(Array.replicate ops.size false).getD i false) = List.range ops.size := by
      refine List.filter_eq_self.2 fun i hi => ?_
      simp [Array.getD_eq_getD_getElem?, Array.getElem?_replicate]
      split <;> rfl
    rw [this]; simp
  · intro k o hk
    exfalso
    simp [Array.getD_eq_getD_getElem?, Array.getElem?_replicate] at hk
    split at hk <;> cases hk
  · have : (fun i => (Array.replicate ops.size false).getD i false = true) = fun _ => False := by
      funext i
      simp only [eq_iff_iff, iff_false]
      intro hk
      simp [Array.getD_eq_getD_getElem?, Array.getElem?_replicate] at hk
      split at hk <;> cases hk
    rw [this]
    exact Mind.start hst
theorem draw_sound (hT : TabOk P T) (hm : P.follows .mixedOrders = true) {id : Nat} {σ : St} (hok : okDraw T ops = true) (hd : ∀ o ∈ ops.toList, ∀ d, o.dst = some d → d < σ.n) {Q : Exit → Act → World → Prop} {K : St → Prop}
    (hQ : ∀ a w, Post G w0 M S0 σ.n K a w → Q .normal a w) (hrel : Rel G w0 M S0 σ a w β S) (h : evOps P G T ops ops.toList σ K) : (Code.region id ops true).wp P Q a w :=
  draw_soundR (rf := fun _ _ => false) hT hm hok hd (fun _ _ _ _ _ _ _ _ _ _ _ _ h => by cases h) hQ hrel h

/-- Blocks that are known to be named. -/
def keysA : A → Option (List Nat)
  | .ptr b _ => some [b]
  | .own b _ _ _ => some [b]
  | .d _ => some []
  | .elem _ => some []
  | .agg _ => none
  | .fn _ _ => none
theorem keysA_refs {a : A} {l : List Nat} {b : Nat} (h : keysA a = some l) (hr : refs1 a b) : b ∈ l := by
  cases a <;> simp only [keysA, Option.some.injEq, refs1] at h hr
  · subst h hr; simp
  · subst h hr; simp
  · cases h
  · cases h
def apartK (x y : A) : Bool := match keysA x, keysA y with
  | some k, some l => k.all fun b => !l.contains b
  | _, _ => false
theorem apartK_spec {x y : A} {b : Nat} (h : apartK x y = true) (hx : refs1 x b) (hy : refs1 y b) : False := by
  unfold apartK at h
  split at h
  · rename_i k l hk hl
    have := List.all_eq_true.1 h b (keysA_refs hk hx)
    have h2 := keysA_refs hl hy
    simp [h2] at this
  · cases h
/-- A store and an operation that look at different blocks, as the slots stand at the end. -/
def disj1 (G : Glob) (ops : Array Oper) (τ : St) (i j : Nat) : Bool := match ops[i]?, ops[j]? with
  | some x, some y => match x.op with
    | .store _ a _ => y.op.operands.all fun q => apartK (τ.ev G a) (τ.ev G q)
    | _ => false
  | _, _ => false
def disjAll (G : Glob) (ops : Array Oper) (τ : St) : List (Nat × Nat) → Prop
  | [] => True
  | p :: ps => disj1 G ops τ p.1 p.2 = true ∧ disjAll G ops τ ps
/-- Slots that an operation looks at are not written behind it. -/
def stays (ops : Array Oper) (i : Nat) : Bool := match ops[i]? with
  | some x => x.op.operands.all fun q => match q with
    | .tmp t => (ops.toList.drop i).all fun o => o.dst != some t
    | _ => true
  | none => false
def noWr (ops : Array Oper) : Bool := ops.toList.all fun o => kindOf o.op != 2 || isSt o
def okDrawL (T : Tab) (ops : Array Oper) (ps : List (Nat × Nat)) : Bool := okDrawR T (fun i j => ps.contains (i, j)) ops && noWr ops && ps.all fun p => stays ops p.1 && stays ops p.2
theorem disjAll_spec {ops : Array Oper} {τ : St} : ∀ {ps : List (Nat × Nat)}, disjAll G ops τ ps → ∀ p ∈ ps, disj1 G ops τ p.1 p.2 = true
  | [], _, p, hp => by cases hp
  | q :: ps, h, p, hp => by
    rcases List.mem_cons.1 hp with rfl | hp
    · exact h.1
    · exact disjAll_spec h.2 p hp
theorem stays_spec {ops : Array Oper} {i : Nat} {x : Oper} (h : stays ops i = true) (hx : ops[i]? = some x) {t : Nat} (ht : Operand.tmp t ∈ x.op.operands) : ∀ k o, i ≤ k → ops[k]? = some o → o.dst ≠ some t := by
  intro k o hk ho
  unfold stays at h
  rw [hx] at h
  have h1 := Array.all_eq_true_iff_forall_mem.1 h _ ht
  have h2 : o ∈ ops.toList.drop i := by
    have : (ops.toList.drop i)[k - i]? = some o := by
      rw [List.getElem?_drop, show i + (k - i) = k by omega]; simpa using ho
    exact List.mem_of_getElem? this
  have := List.all_eq_true.1 h1 o h2
  simpa using this
theorem stays_ev {ops : Array Oper} {σs : Nat → St} {τ : St} {i : Nat} {x : Oper} (hst : ∀ i o, ops[i]? = some o → StepAt P G T ops o (σs i) (σs (i + 1))) (hn : noWr ops = true) (h : stays ops i = true) (hx : ops[i]? = some x) (he : Eqv (σs ops.size) τ) {q : Operand} (hq : q ∈ x.op.operands) : τ.ev G q = (σs i).ev G q := by
  cases q with
  | tmp t =>
    have hi : i < ops.size := by
      rcases Nat.lt_or_ge i ops.size with h | h
      · exact h
      · simp [Array.getElem?_eq_none h] at hx
    have h1 := get_up hst (a := i) (m := ops.size) (t := t) (Nat.le_of_lt hi) (Nat.le_refl _) (fun k hk hk2 htc => by
      obtain ⟨o, ho, hto⟩ := htc
      rcases hto with hto | hto
      · exact stays_spec h hx hq k o hk ho hto
      · have hmem : o ∈ ops.toList := by
          have : ops.toList[k]? = some o := by simpa using ho
          exact List.mem_of_getElem? this
        have := List.all_eq_true.1 hn o hmem
        simp [hto.1, hto.2] at this)
    have h2 := he.get t
    show τ.get t = (σs i).get t
    rw [← h1, h2]
  | _ => rfl
/-- A late check, and then on. -/
structure LateE (p q : Prop) : Prop where
  p : p
  q : q
theorem late_sound (hT : TabOk P T) (hm : P.follows .mixedOrders = true) {id : Nat} {σ : St} {ps : List (Nat × Nat)} (hok : okDrawL T ops ps = true) (hd : ∀ o ∈ ops.toList, ∀ d, o.dst = some d → d < σ.n) {Q : Exit → Act → World → Prop} {K : St → Prop}
    (hQ : ∀ a w, Post G w0 M S0 σ.n K a w → Q .normal a w) (hrel : Rel G w0 M S0 σ a w β S) (h : evOps P G T ops ops.toList σ (fun τ => LateE (disjAll G ops τ ps) (K τ))) : (Code.region id ops true).wp P Q a w := by
  simp only [okDrawL, Bool.and_eq_true] at hok
  obtain ⟨⟨hok, hn⟩, hs⟩ := hok
  refine draw_soundR (rf := fun i j => ps.contains (i, j)) (K := fun τ => LateE (disjAll G ops τ ps) (K τ)) hT hm hok hd ?_ (fun a w hp => hQ a w ?_) hrel h
  · rintro τ ⟨hτ, _⟩ σs hst he i j x y b hx hy hp hb ⟨q, hq, hqb⟩
    have hp : (i, j) ∈ ps := by simpa using hp
    have h1 := disjAll_spec hτ _ hp
    have h2 := List.all_eq_true.1 hs _ hp
    simp only [Bool.and_eq_true] at h2
    unfold disj1 at h1
    simp only [hx, hy] at h1
    unfold stb at hb
    split at hb
    · rename_i t a v hop
      rw [hop] at h1
      simp only at h1
      have h3 := Array.all_eq_true_iff_forall_mem.1 h1 q hq
      rw [stays_ev hst hn h2.1 hx he (by rw [hop]; simp [Op.operands]), stays_ev hst hn h2.2 hy he hq] at h3
      exact apartK_spec h3 hb hqb
    · exact hb
  · obtain ⟨σ', β', S', ⟨_, hk⟩, h1, h2⟩ := hp
    exact ⟨σ', β', S', hk, h1, h2⟩
end
end Go.Ev
