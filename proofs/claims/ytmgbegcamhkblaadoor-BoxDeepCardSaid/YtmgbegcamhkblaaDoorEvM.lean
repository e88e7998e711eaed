/- New memory, calls, stores: what they give does not hang on what else has been done. -/
import Derived.Test.YtmgbegcamhkblaaDoorEvL
set_option linter.unusedSimpArgs false
set_option linter.unusedVariables false
namespace Go.Ev
open Go
section
variable {T : Tab} {P : Program} {G : Glob}

theorem boundless {α : Type} {p : Prop} (h : p) (x : α) : p := h

theorem newEv_tr {ev : Operand → A} {d : Nat} {op : Op} {K : A → List A → Prop} (h : newEv T ev d op K) :
    ∃ r l, K r l ∧ ∀ (ev' : Operand → A) (K' : A → List A → Prop), (∀ x ∈ op.operands, ev' x = ev x) → K' r l → newEv T ev' d op K' := by
  unfold newEv at h
  split at h
  · split at h
    · rename_i y hy
      refine ⟨_, _, h.k, fun ev' K' he h' => ?_⟩
      simp only [newEv, hy]
      exact ⟨h.c, h'⟩
    · exact h.elim
  · rename_i e x
    refine ⟨_, _, h.k, fun ev' K' he h' => ?_⟩
    simp only [newEv]
    rw [he x (by simp [Op.operands])]
    exact ⟨h.c, h'⟩
  · rename_i t l c
    unfold tySlice at h
    split at h
    · rename_i y hy
      split at h
      · rename_i e hk
        split at h
        · rename_i ye hye
          split at h
          · rename_i kl il kc ic e1 e2
            obtain ⟨h1, h2, h3, row, hrow, h4⟩ := h
            refine ⟨_, _, h4, fun ev' K' he h' => ?_⟩
            simp only [newEv, tySlice, hy, hk, hye]
            rw [he l (by simp [Op.operands]), he c (by simp [Op.operands]), e1, e2]
            exact ⟨h1, h2, h3, row, hrow, h'⟩
          · exact h.elim
        · exact h.elim
      · exact h.elim
    · exact h.elim
  · rename_i t len parts
    unfold tySlice at h
    split at h
    · rename_i y hy
      split at h
      · rename_i e hk
        split at h
        · rename_i ye hye
          obtain ⟨h1, h⟩ := h
          obtain ⟨c, h2, h3⟩ := fillA_det h
          refine ⟨_, _, h2, fun ev' K' he h' => ?_⟩
          simp only [newEv, tySlice, hy, hk, hye]
          refine ⟨h1, ?_⟩
          rw [parts_congr fun p hp => he p.2 (by simp only [Op.operands]; simp; exact ⟨p.1, by simpa using hp⟩)]
          exact h3 _ h'
        · exact h.elim
      · exact h.elim
    · exact h.elim
  · rename_i t x lo hi m
    split at h
    · rename_i n cells ex
      unfold tySlice at h
      split at h
      · rename_i y hy
        split at h
        · rename_i e hk
          split at h
          · rename_i ye hye
            split at h
            · rename_i hi'
              obtain ⟨kh, km, e1, e2, hK⟩ := h
              refine ⟨_, _, hK, fun ev' K' he h' => ?_⟩
              simp only [newEv]
              rw [he x (by simp [Op.operands]), ex]
              simp only [tySlice, hy, hk, hye]
              exact ⟨kh, km, by rw [he _ (by simp [Op.operands]), e1], by rw [he _ (by simp [Op.operands]), e2], h'⟩
            · exact h.elim
          · exact h.elim
        · exact h.elim
      · exact h.elim
    · exact h.elim
  · exact h.elim

theorem argEv1_tr {hp : Nat → Option (Bool × List A)} {a : A} {K : D → List Nat → Prop} (h : argEv1 hp a K) :
    ∃ x bs, K x bs ∧ (∀ b ∈ bs, ∃ (fr : Bool) (ds : List D), hp b = some (fr, ds.map A.d)) ∧ ∀ (hp' : Nat → Option (Bool × List A)) (K' : D → List Nat → Prop), (∀ b, refs1 a b → ∀ fr l, hp b = some (fr, l) → ∃ fr', hp' b = some (fr', l)) → K' x bs → argEv1 hp' a K' := by
  unfold argEv1 at h
  split at h
  · exact ⟨_, _, h, by simp, fun hp' K' _ h' => h'⟩
  · rename_i b o n sz
    split at h
    · rename_i fr l hl
      obtain ⟨ds, hds, y, hy, hK⟩ := h
      refine ⟨_, _, hK, fun c hc => by simp at hc; subst hc; exact ⟨fr, ds, by rw [hl, hds]⟩, fun hp' K' hh h' => ?_⟩
      obtain ⟨fr', hl'⟩ := hh b rfl fr l hl
      simp only [argEv1, hl']
      exact ⟨ds, hds, y, hy, h'⟩
    · exact h.elim
  · exact h.elim

theorem argsEv1_tr {hp : Nat → Option (Bool × List A)} : ∀ {as : List A} {K : List D → List Nat → Prop}, argsEv1 hp as K →
    ∃ xs bs, K xs bs ∧ (∀ b ∈ bs, ∃ (fr : Bool) (ds : List D), hp b = some (fr, ds.map A.d)) ∧ ∀ (hp' : Nat → Option (Bool × List A)) (K' : List D → List Nat → Prop), (∀ a ∈ as, ∀ b, refs1 a b → ∀ fr l, hp b = some (fr, l) → ∃ fr', hp' b = some (fr', l)) → K' xs bs → argsEv1 hp' as K'
  | [], K, h => ⟨[], [], h, by simp, fun _ _ _ h' => h'⟩
  | a :: as, K, h => by
    simp only [argsEv1] at h
    obtain ⟨x, bs, h, hb1, t1⟩ := argEv1_tr h
    obtain ⟨xs, bs2, h, hb2, t2⟩ := argsEv1_tr h
    refine ⟨_, _, h, fun b hb => ?_, fun hp' K' hh h' => ?_⟩
    · rcases List.mem_append.1 hb with hb | hb
      · exact hb1 b hb
      · exact hb2 b hb
    · simp only [argsEv1]
      exact t1 hp' _ (hh a (by simp)) (t2 hp' _ (fun c hc => hh c (by simp [hc])) h')

theorem refs1s_mem : ∀ {l : List A} {x : A} {b : Nat}, x ∈ l → refs1 x b → refs1s l b
  | y :: l, x, b, h, hr => by
    rcases List.mem_cons.1 h with rfl | h
    · exact .inl hr
    · exact .inr (refs1s_mem h hr)
theorem argEv_tr {hp : Nat → Option (Bool × List A)} {a : A} {K : D → List Nat → Prop} (h : argEv hp a K) :
    ∃ x bs, K x bs ∧ (∀ b ∈ bs, ∃ (fr : Bool) (ds : List D), hp b = some (fr, ds.map A.d)) ∧ ∀ (hp' : Nat → Option (Bool × List A)) (K' : D → List Nat → Prop), (∀ b, refs1 a b → ∀ fr l, hp b = some (fr, l) → ∃ fr', hp' b = some (fr', l)) → K' x bs → argEv hp' a K' := by
  unfold argEv at h
  split at h
  · rename_i l
    obtain ⟨xs, bs, hK, hb, t⟩ := argsEv1_tr h
    refine ⟨_, _, hK, hb, fun hp' K' hh h' => ?_⟩
    simp only [argEv]
    exact t hp' _ (fun x hx b hr => hh b (by simp only [refs1]; exact refs1s_mem hx hr)) h'
  · rename_i hne
    obtain ⟨x, bs, hK, hb, t⟩ := argEv1_tr h
    refine ⟨x, bs, hK, hb, fun hp' K' hh h' => ?_⟩
    have := t hp' K' hh h'
    cases a <;> first | exact (hne _ rfl).elim | simpa only [argEv] using this

theorem argsEv_tr {hp : Nat → Option (Bool × List A)} : ∀ {as : List A} {K : List D → List Nat → Prop}, argsEv hp as K →
    ∃ xs bs, K xs bs ∧ (∀ b ∈ bs, ∃ (fr : Bool) (ds : List D), hp b = some (fr, ds.map A.d)) ∧ ∀ (hp' : Nat → Option (Bool × List A)) (K' : List D → List Nat → Prop), (∀ a ∈ as, ∀ b, refs1 a b → ∀ fr l, hp b = some (fr, l) → ∃ fr', hp' b = some (fr', l)) → K' xs bs → argsEv hp' as K'
  | [], K, h => ⟨[], [], h, by simp, fun _ _ _ h' => h'⟩
  | a :: as, K, h => by
    simp only [argsEv] at h
    obtain ⟨x, bs, h, hb1, t1⟩ := argEv_tr h
    obtain ⟨xs, bs2, h, hb2, t2⟩ := argsEv_tr h
    refine ⟨_, _, h, fun b hb => ?_, fun hp' K' hh h' => ?_⟩
    · rcases List.mem_append.1 hb with hb | hb
      · exact hb1 b hb
      · exact hb2 b hb
    · simp only [argsEv]
      exact t1 hp' _ (hh a (by simp)) (t2 hp' _ (fun c hc => hh c (by simp [hc])) h')

theorem callEv_tr {σ : St} {op : Op} {K : A → St → Prop} (h : callEv P G σ op K) :
    ∃ (fresh : Bool) (r : D) (bs : List Nat), K (.d r) (if fresh then σ else σ.freeze bs) ∧ (∀ b ∈ bs, ∃ (fr : Bool) (ds : List D), σ.hp b = some (fr, ds.map A.d)) ∧ ∀ (σ' : St) (K' : A → St → Prop), (∀ x ∈ op.operands, σ'.ev G x = σ.ev G x) →
      (∀ x ∈ op.operands, ∀ b, refs1 (σ.ev G x) b → ∀ fr l, σ.hp b = some (fr, l) → ∃ fr', σ'.hp b = some (fr', l)) → K' (.d r) (if fresh then σ' else σ'.freeze bs) → callEv P G σ' op K' := by
  unfold callEv at h
  split at h
  · rename_i c
    obtain ⟨callee, args, at_⟩ := c
    simp only at h
    split at h
    · rename_i f
      obtain ⟨xs, bs, h, hb, t⟩ := argsEv_tr h
      obtain ⟨fresh, r, hs, hK⟩ := h
      refine ⟨fresh, r, bs, hK, hb, fun σ' K' he hh h' => ?_⟩
      have hmem : ∀ x ∈ args.toList, x ∈ (Op.call ⟨.value (.func f), args, at_⟩).operands := fun x hx => by
        simp only [Op.operands, Call.operands]; simp; exact .inr (by simpa using hx)
      simp only [callEv]
      have hargs : args.toList.map (σ'.ev G) = args.toList.map (σ.ev G) := List.map_congr_left fun x hx => he x (hmem x hx)
      rw [hargs]
      refine t σ'.hp _ (fun a ha b hr fr l hl => ?_) ⟨fresh, r, hs, h'⟩
      obtain ⟨x, hx, rfl⟩ := List.mem_map.1 ha
      exact hh x (hmem x hx) b hr fr l hl
    · exact h.elim
  · exact h.elim

/-- Two states that are one, but for what has been shared out. -/
structure Eqv (σ' σ : St) : Prop where
  n : σ'.n = σ.n
  get : ∀ t, σ'.get t = σ.get t
  ct : ∀ b, (lk σ'.heap b).map (·.2) = (lk σ.heap b).map (·.2)
  fl : ∀ b l, lk σ.heap b = some (false, l) → ∃ l', lk σ'.heap b = some (false, l')

theorem Eqv.refl (σ : St) : Eqv σ σ := ⟨rfl, fun _ => rfl, fun _ => rfl, fun _ l h => ⟨l, h⟩⟩
theorem Eqv.ev {σ' σ : St} (h : Eqv σ' σ) (x : Operand) : σ'.ev G x = σ.ev G x := by
  cases x with
  | tmp t => exact h.get t
  | _ => rfl
theorem Eqv.hp {σ' σ : St} (h : Eqv σ' σ) {b : Nat} {fr : Bool} {l : List A} (hl : σ.hp b = some (fr, l)) : ∃ fr', σ'.hp b = some (fr', l) := by
  have := h.ct b
  have hl' : lk σ.heap b = some (fr, l) := hl
  rw [hl'] at this
  simp only [Option.map_some, Option.map_eq_some_iff] at this
  obtain ⟨y, hy, e⟩ := this
  obtain ⟨fr', l'⟩ := y
  exact ⟨fr', by rw [← e]; exact hy⟩
theorem Eqv.hpf {σ' σ : St} (h : Eqv σ' σ) {b : Nat} {l : List A} (hl : σ.hp b = some (false, l)) : σ'.hp b = some (false, l) := by
  obtain ⟨l', h1⟩ := h.fl b l hl
  obtain ⟨fr', h2⟩ := h.hp hl
  have : lk σ'.heap b = some (fr', l) := h2
  rw [h1] at this
  simp only [Option.some.injEq, Prod.mk.injEq] at this
  show lk σ'.heap b = some (false, l)
  rw [h1, this.2]
theorem Eqv.hpn {σ' σ : St} (h : Eqv σ' σ) {b : Nat} (hl : σ.hp b = none) : σ'.hp b = none := by
  have := h.ct b
  have hl' : lk σ.heap b = none := hl
  rw [hl'] at this
  simpa [St.hp] using this

theorem Eqv.wr {σ' σ : St} (h : Eqv σ' σ) (b : Nat) (l : List A) : Eqv (σ'.wr b l) (σ.wr b l) := by
  refine ⟨h.n, h.get, fun c => ?_, fun c l' hl' => ?_⟩
  · simp only [St.wr, lk_hset]
    split
    · rename_i e
      subst e
      have := h.ct c
      cases h1 : lk σ.heap c <;> cases h2 : lk σ'.heap c <;> simp_all
    · exact h.ct c
  · simp only [St.wr, lk_hset] at hl' ⊢
    split at hl'
    · rename_i e
      subst e
      rw [if_pos rfl]
      simp only [Option.map_eq_some_iff] at hl' ⊢
      obtain ⟨y, hy, e⟩ := hl'
      obtain ⟨fr, l2⟩ := y
      simp only [Prod.mk.injEq] at e
      obtain ⟨e1, e2⟩ := e
      subst e1
      obtain ⟨l3, h3⟩ := h.fl c l2 hy
      exact ⟨l, (false, l3), h3, rfl⟩
    · rename_i e
      rw [if_neg e]
      exact h.fl c l' hl'
theorem get_kill (σ : St) (b t : Nat) : (σ.kill b).get t = (σ.get t).kill b := by
  simp only [St.get, St.kill, lk_mapA]
  cases lk σ.env t <;> rfl
theorem Eqv.kill {σ' σ : St} (h : Eqv σ' σ) (b : Nat) : Eqv (σ'.kill b) (σ.kill b) := by
  refine ⟨h.n, fun t => by rw [get_kill, get_kill, h.get], fun c => ?_, fun c l hl => ?_⟩
  · simp only [St.kill, lk_mapH, Option.map_map]
    have := h.ct c
    cases h1 : lk σ.heap c <;> cases h2 : lk σ'.heap c <;> simp_all
  · simp only [St.kill, lk_mapH, Option.map_eq_some_iff] at hl ⊢
    obtain ⟨y, hy, e⟩ := hl
    obtain ⟨fr, l2⟩ := y
    simp only [Prod.mk.injEq] at e
    obtain ⟨e1, e2⟩ := e
    subst e1
    obtain ⟨l3, h3⟩ := h.fl c l2 hy
    exact ⟨_, (false, l3), h3, rfl⟩
theorem Eqv.new {σ' σ : St} (h : Eqv σ' σ) (d : Nat) (l : List A) : Eqv (σ'.new d l) (σ.new d l) := by
  refine ⟨h.n, h.get, fun c => ?_, fun c l' hl => ?_⟩
  · simp only [St.new, lk]
    split
    · rfl
    · exact h.ct c
  · simp only [St.new, lk] at hl ⊢
    split at hl
    · rename_i e; rw [if_pos e]; exact ⟨l, rfl⟩
    · rename_i e; rw [if_neg e]; exact h.fl c l' hl
theorem get_put (σ : St) (d t : Nat) (r : A) : (σ.put (some d) r).get t = if d = t then r else σ.get t := by
  simp only [St.get, St.put, lk]
  split <;> rfl
theorem Eqv.put {σ' σ : St} (h : Eqv σ' σ) (d : Option Nat) (r : A) : Eqv (σ'.put d r) (σ.put d r) := by
  cases d with
  | none => exact h
  | some d => exact ⟨h.n, fun t => by rw [get_put, get_put, h.get], h.ct, h.fl⟩

theorem Eqv.trans {a b c : St} (h : Eqv a b) (k : Eqv b c) : Eqv a c :=
  ⟨h.n.trans k.n, fun t => (h.get t).trans (k.get t), fun b => (h.ct b).trans (k.ct b), fun b l hl => let ⟨l', h1⟩ := k.fl b l hl; h.fl b l' h1⟩
theorem freeze_n (σ : St) (bs : List Nat) : (σ.freeze bs).n = σ.n := by cases bs <;> rfl
theorem freeze_env (σ : St) (bs : List Nat) : (σ.freeze bs).env = σ.env := by cases bs <;> rfl
theorem freeze_lk (σ : St) (bs : List Nat) (b : Nat) : lk (σ.freeze bs).heap b = (lk σ.heap b).map fun x => (x.1 || bs.contains b, x.2) := by
  cases bs with
  | nil => simp [St.freeze]
  | cons b0 bs => exact lk_freeze _ _ _
theorem freeze_get (σ : St) (bs : List Nat) (t : Nat) : (σ.freeze bs).get t = σ.get t := by simp only [St.get, freeze_env]
theorem Eqv.freeze {σ' σ : St} (h : Eqv σ' σ) (bs : List Nat) : Eqv (σ'.freeze bs) (σ.freeze bs) := by
  refine ⟨by rw [freeze_n, freeze_n, h.n], fun t => by rw [freeze_get, freeze_get, h.get], fun b => ?_, fun b l hl => ?_⟩
  · rw [freeze_lk, freeze_lk, Option.map_map, Option.map_map]
    have := h.ct b
    cases h1 : lk σ.heap b <;> cases h2 : lk σ'.heap b <;> simp_all
  · rw [freeze_lk] at hl ⊢
    simp only [Option.map_eq_some_iff] at hl ⊢
    obtain ⟨y, hy, e⟩ := hl
    obtain ⟨fr, l2⟩ := y
    simp only [Prod.mk.injEq, Bool.or_eq_false_iff] at e
    obtain ⟨⟨e1, e2⟩, e3⟩ := e
    subst e1
    obtain ⟨l3, h3⟩ := h.fl b l2 hy
    exact ⟨l3, (false, l3), h3, by simp only [e2, Bool.or_self]⟩

theorem contentEv_tr {hp : Nat → Option (Bool × List A)} {sz : Nat} {x : A} {K : Nat → List D → Prop} (h : contentEv hp sz x K) :
    ∃ n l, K n l ∧ ∀ (hp' : Nat → Option (Bool × List A)) (K' : Nat → List D → Prop), (∀ b fr l, hp b = some (fr, l) → ∃ fr', hp' b = some (fr', l)) → K' n l → contentEv hp' sz x K' := by
  unfold contentEv at h
  split at h
  · exact ⟨_, _, h.k, fun _ _ _ h' => ⟨h.c, h'⟩⟩
  · exact ⟨_, _, h, fun _ _ _ h' => h'⟩
  · rename_i b o n sz'
    split at h
    · rename_i fr l hl
      obtain ⟨ds, hds, h1, h2, hK⟩ := h
      refine ⟨_, _, hK, fun hp' K' hh h' => ?_⟩
      obtain ⟨fr', hl'⟩ := hh b fr l hl
      simp only [contentEv, hl']
      exact ⟨ds, hds, h1, h2, h'⟩
    · exact h.elim
  · exact h.elim

/-- What is shared out is data. -/
def FD (σ : St) : Prop := ∀ b l, lk σ.heap b = some (true, l) → ∃ ds : List D, l = ds.map A.d

theorem wrEv_tr {σ : St} {d : Option Nat} {op : Op} {K : A → St → Prop} (h : wrEv T G σ d op K) :
    ∃ r τ, K r τ ∧ (τ.n = σ.n ∧ (∀ b l, lk σ.heap b = some (true, l) → ∃ l', lk τ.heap b = some (true, l')) ∧ (∀ b, lk σ.heap b ≠ none → lk τ.heap b ≠ none) ∧ (FD σ → FD τ)) ∧ ∀ (σ' : St) (K' : A → St → Prop), Eqv σ' σ → (∀ τ', Eqv τ' τ → K' r τ') → wrEv T G σ' d op K' := by
  have hwr : ∀ (σ : St) (b : Nat) (l l0 : List A), lk σ.heap b = some (false, l0) → (σ.wr b l).n = σ.n ∧ (∀ c l1, lk σ.heap c = some (true, l1) → ∃ l', lk (σ.wr b l).heap c = some (true, l')) ∧ (∀ c, lk σ.heap c ≠ none → lk (σ.wr b l).heap c ≠ none) ∧ (FD σ → FD (σ.wr b l)) := by
    intro σ b l l0 hlive
    refine ⟨rfl, fun c l1 h => ?_, fun c h => ?_, fun hfd c l1 h => ?_⟩
    · simp only [St.wr, lk_hset]
      split
      · rw [h]; exact ⟨l, rfl⟩
      · exact ⟨l1, h⟩
    · simp only [St.wr, lk_hset]
      split
      · intro e; exact h (by simpa using e)
      · exact h
    · simp only [St.wr, lk_hset] at h
      split at h
      · rename_i e
        subst e
        rw [hlive] at h
        cases h
      · exact hfd c l1 h
  have hki : ∀ (σ : St) (b : Nat), (σ.kill b).n = σ.n ∧ (∀ c l1, lk σ.heap c = some (true, l1) → ∃ l', lk (σ.kill b).heap c = some (true, l')) ∧ (∀ c, lk σ.heap c ≠ none → lk (σ.kill b).heap c ≠ none) ∧ (FD σ → FD (σ.kill b)) := by
    intro σ b
    refine ⟨rfl, fun c l1 h => ?_, fun c h => ?_, fun hfd c l1 h => ?_⟩
    · simp only [St.kill, lk_mapH, h]; exact ⟨_, rfl⟩
    · simp only [St.kill, lk_mapH]; intro e; exact h (by simpa using e)
    · simp only [St.kill, lk_mapH, Option.map_eq_some_iff] at h
      obtain ⟨y, hy, e⟩ := h
      obtain ⟨fr, l2⟩ := y
      cases e
      obtain ⟨ds, rfl⟩ := hfd c l2 hy
      exact ⟨ds, by simp⟩
  unfold wrEv at h
  split at h
  · rename_i t a x
    split at h
    · rename_i b o ea
      split at h
      · rename_i l y hl hy
        obtain ⟨h1, h2, h3, h4, row, hrow, hK⟩ := h
        refine ⟨_, _, hK, hwr _ _ _ l hl, fun σ' K' he h' => ?_⟩
        simp only [wrEv]
        rw [he.ev a, ea]
        simp only [he.hpf hl, hy, he.ev x]
        exact ⟨h1, h2, h3, h4, row, hrow, h' _ (he.wr b _)⟩
      · exact h.elim
    · exact h.elim
  · rename_i c
    split at h
    · rename_i t t2 s x d' hcal hat har
      unfold tySlice at h
      split at h
      · rename_i y hy
        split at h
        · rename_i e hk
          split at h
          · rename_i ye hye
            obtain ⟨h1, h⟩ := h
            obtain ⟨n, l, h, t⟩ := contentEv_tr h
            obtain ⟨h2, h⟩ := h
            have key : ∃ r τ, K r τ ∧ (τ.n = σ.n ∧ (∀ b l, lk σ.heap b = some (true, l) → ∃ l', lk τ.heap b = some (true, l')) ∧ (∀ b, lk σ.heap b ≠ none → lk τ.heap b ≠ none) ∧ (FD σ → FD τ)) ∧ ∀ (σ' : St) (K' : A → St → Prop), Eqv σ' σ → (∀ τ', Eqv τ' τ → K' r τ') → (match σ'.ev G s with
                | .d .nil => Cd (n * ye.bytes ≤ 70368744177664) (Cd ((σ'.hp d').isNone = true) (EqE (l.map A.d) fun row => K' (.own d' 0 n ye.size) (σ'.new d' row)))
                | .own b o n' sz => match σ'.hp b with
                  | some (false, l') => Cd (okKey b o = 0 ∧ sz = ye.size) (Cd (l'.length = n' * sz) (Cd ((n' + n) * ye.bytes ≤ 70368744177664) (DsE l' fun _ => EqE (l' ++ l.map A.d) fun row => K' (.own b 0 (n' + n) sz) ((σ'.kill b).wr b row))))
                  | _ => False
                | _ => False) := by
              split at h
              · rename_i es
                obtain ⟨h3, h4, row, hrow, hK⟩ := h
                have hdn : lk σ.heap d' = none := by simpa [St.hp] using h4
                refine ⟨_, _, hK, ⟨rfl, fun c l1 hc => ?_, fun c hc => ?_, fun hfd c l1 hc => ?_⟩, fun σ' K' he h' => ?_⟩
                · simp only [St.new, lk]
                  rw [if_neg (fun e => by rw [e, hc] at hdn; cases hdn)]
                  exact ⟨l1, hc⟩
                · simp only [St.new, lk]
                  split
                  · simp
                  · exact hc
                · simp only [St.new, lk] at hc
                  split at hc
                  · cases hc
                  · exact hfd c l1 hc
                rw [he.ev s, es]
                have : σ.hp d' = none := by simpa using h4
                exact ⟨h3, by rw [he.hpn this]; rfl, row, hrow, h' _ (he.new d' _)⟩
              · rename_i b o n' sz es
                split at h
                · rename_i l' hl'
                  obtain ⟨h3, h4, h5, ds, hds, row, hrow, hK⟩ := h
                  have hkl : lk (σ.kill b).heap b = some (false, A.kills b l') := by
                    have : lk σ.heap b = some (false, l') := hl'
                    simp only [St.kill, lk_mapH, this]; rfl
                  refine ⟨_, _, hK, ⟨rfl, fun c l1 hc => ?_, fun c hc => ?_, fun hfd => (hwr _ _ _ _ hkl).2.2.2 ((hki σ b).2.2.2 hfd)⟩, fun σ' K' he h' => ?_⟩
                  · obtain ⟨l2, h6⟩ := (hki σ b).2.1 c l1 hc
                    exact (hwr _ _ _ _ hkl).2.1 c l2 h6
                  · exact (hwr _ _ _ _ hkl).2.2.1 c ((hki σ b).2.2.1 c hc)
                  rw [he.ev s, es]
                  simp only [he.hpf hl']
                  exact ⟨h3, h4, h5, ds, hds, row, hrow, h' _ ((he.kill b).wr b _)⟩
                · exact h.elim
              · exact h.elim
            obtain ⟨r, τ, hK, hmono, hk'⟩ := key
            refine ⟨r, τ, hK, hmono, fun σ' K' he h' => ?_⟩
            simp only [wrEv, hcal, hat, har, tySlice, hy, hk, hye]
            refine ⟨h1, ?_⟩
            rw [he.ev x]
            exact t σ'.hp _ (fun b fr l hl => he.hp hl) ⟨h2, hk' σ' K' he h'⟩
          · exact h.elim
        · exact h.elim
      · exact h.elim
    · exact h.elim
  · exact h.elim
end
end Go.Ev
