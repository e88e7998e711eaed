/- Regions that draw their order: the text's order tells what every order gives. -/
import Derived.Test.YtmgbegcamhkblaaDoorEvM
set_option linter.unusedSimpArgs false
set_option linter.unusedVariables false
namespace Go.Ev
open Go
section
variable {T : Tab} {P : Program} {G : Glob}

def guardYes (ops : Array Oper) (o : Oper) (σ : St) : Prop :=
  o.guard = none ∨ ∃ j want g, o.guard = some (j, want) ∧ gtmp ops j = some g ∧ σ.get g = .d (.bool want)
def guardNo (ops : Array Oper) (o : Oper) (σ : St) : Prop :=
  ∃ j want g, o.guard = some (j, want) ∧ gtmp ops j = some g ∧ (σ.get g = .d (.bool (!want)) ∨ σ.get g = .d (.tup []))

/-- What an operation leads to is in reach elsewhere too. -/
def Reach (G : Glob) (o : Oper) (σ σ' : St) : Prop := ∀ x ∈ o.op.operands, ∀ b, refs1 (σ.ev G x) b → ∀ fr l, σ.hp b = some (fr, l) → ∃ fr', σ'.hp b = some (fr', l)
def Same (G : Glob) (o : Oper) (σ σ' : St) : Prop := ∀ x ∈ o.op.operands, σ'.ev G x = σ.ev G x

/-- What looks at slots alone. -/
def lite (o : Oper) : Bool := match o.op with
  | .move _ | .assign _ | .extract _ _ | .binOp _ _ _ _ _ | .unOp _ _ _ | .convert _ _ _ => true
  | .call c => match c.callee with
    | .builtin .len => true
    | _ => false
  | _ => false
/-- A store. -/
def isSt (o : Oper) : Bool := match o.op, o.dst with
  | .store _ _ _, none => true
  | _, _ => false
theorem lite_kind {o : Oper} (h : lite o = true) : kindOf o.op = 0 := by
  obtain ⟨dst, op, type, pos, after, guard⟩ := o
  unfold lite at h
  cases op with
  | move _ => rfl
  | assign _ => rfl
  | extract _ _ => rfl
  | binOp _ _ _ _ _ => rfl
  | unOp _ _ _ => rfl
  | convert _ _ _ => rfl
  | call c =>
    obtain ⟨callee, args, at_⟩ := c
    simp only at h
    split at h
    · rfl
    · cases h
  | _ => cases h
theorem isSt_spec {o : Oper} (h : isSt o = true) : kindOf o.op = 2 ∧ o.dst = none ∧ ∃ t a x, o.op = .store t a x := by
  unfold isSt at h
  split at h
  · rename_i t a x h1 h2
    exact ⟨by rw [h1]; rfl, h2, t, a, x, h1⟩
  · cases h
theorem lite_not_st {o : Oper} (h : lite o = true) : isSt o = false := by
  cases hs : isSt o with
  | false => rfl
  | true => have h1 := lite_kind h; rw [(isSt_spec hs).1] at h1; cases h1
theorem valEv_lite {ev : Operand → A} {hp hp' : Nat → Option (Bool × List A)} {o : Oper} (h : lite o = true) (K : A → Prop) (hv : valEv T ev hp o.op K) : valEv T ev hp' o.op K := by
  obtain ⟨dst, op, type, pos, after, guard⟩ := o
  unfold lite at h
  cases op with
  | move _ => exact hv
  | assign _ => exact hv
  | extract _ _ => exact hv
  | binOp _ _ _ _ _ => exact hv
  | unOp _ _ _ => exact hv
  | convert _ _ _ => exact hv
  | call c =>
    obtain ⟨callee, args, at_⟩ := c
    simp only at h
    split at h
    · exact hv
    · cases h
  | _ => cases h

inductive StepOk (P : Program) (G : Glob) (T : Tab) (ops : Array Oper) (o : Oper) (σ τ : St) : Prop where
  | skip (hg : guardNo ops o σ) (h : τ = σ.put o.dst (.d (.tup [])))
  | val (hg : guardYes ops o σ) (hk : kindOf o.op = 0) (hl : lite o = false) (r : A) (h : τ = σ.put o.dst r) (t : ∀ (σ' : St) (K' : St → Prop), Same G o σ σ' → Reach G o σ σ' → K' (σ'.put o.dst r) → evOp P G T σ' o K')
  | lt (hg : guardYes ops o σ) (hl : lite o = true) (r : A) (h : τ = σ.put o.dst r) (t : ∀ (σ' : St) (K' : St → Prop), Same G o σ σ' → K' (σ'.put o.dst r) → evOp P G T σ' o K')
  | st (hg : guardYes ops o σ) (hs : isSt o = true) (b : Nat) (l row : List A) (hb : lk σ.heap b = some (false, l)) (h : τ = σ.wr b row) (t : ∀ (σ' : St) (K' : St → Prop), Same G o σ σ' → lk σ'.heap b = some (false, l) → K' (σ'.wr b row) → evOp P G T σ' o K')
  | new (hg : guardYes ops o σ) (hk : kindOf o.op = 1) (d : Nat) (hd : o.dst = some d) (r : A) (l : List A) (hf : lk σ.heap d = none) (h : τ = (σ.new d l).put (some d) r)
      (t : ∀ (σ' : St) (K' : St → Prop), Same G o σ σ' → lk σ'.heap d = none → K' ((σ'.new d l).put (some d) r) → evOp P G T σ' o K')
  | call (hg : guardYes ops o σ) (hk : kindOf o.op = 3) (fresh : Bool) (r : A) (bs : List Nat) (hb : ∀ b ∈ bs, ∃ (fr : Bool) (ds : List D), lk σ.heap b = some (fr, ds.map A.d)) (h : τ = (if fresh then σ else σ.freeze bs).put o.dst r)
      (t : ∀ (σ' : St) (K' : St → Prop), Same G o σ σ' → Reach G o σ σ' → K' ((if fresh then σ' else σ'.freeze bs).put o.dst r) → evOp P G T σ' o K')
  | wr (hg : guardYes ops o σ) (hk : kindOf o.op = 2) (hs : isSt o = false) (hn : τ.n = σ.n) (mono : ∀ b l, lk σ.heap b = some (true, l) → ∃ l', lk τ.heap b = some (true, l')) (keys : ∀ b, lk σ.heap b ≠ none → lk τ.heap b ≠ none) (fd : FD σ → FD τ)
      (t : ∀ (σ' : St) (K' : St → Prop), Eqv σ' σ → (∀ τ', Eqv τ' τ → K' τ') → evOp P G T σ' o K')

theorem kindOf_le (op : Op) : kindOf op = 0 ∨ kindOf op = 1 ∨ kindOf op = 2 ∨ kindOf op = 3 := by
  unfold kindOf
  split <;> first | simp | (split <;> simp)

theorem evOp_step {ops : Array Oper} {o : Oper} {σ : St} {K : St → Prop} (hs : safeOp T o.op = true) (hg : guardYes ops o σ) (h : evOp P G T σ o K) : ∃ τ, K τ ∧ StepOk P G T ops o σ τ := by
  rcases kindOf_le o.op with hk | hk | hk | hk
  · simp only [evOp, hk] at h
    obtain ⟨r, h1, h2⟩ := valEv_det hs _ h
    rw [St.putK_eq] at h1
    cases hl : lite o with
    | true =>
      refine ⟨_, h1, .lt hg hl r rfl fun σ' K' he h' => ?_⟩
      simp only [evOp, hk]
      have he2 : Same G o σ ⟨σ'.n, σ'.env, σ.heap⟩ := fun x hx => by
        have h3 : St.ev G ⟨σ'.n, σ'.env, σ.heap⟩ x = σ'.ev G x := by cases x <;> rfl
        rw [h3]; exact he x hx
      have h4 := valEv_tr (ev' := St.ev G ⟨σ'.n, σ'.env, σ.heap⟩) (hp' := σ.hp) he2 (fun x hx b hr fr l hl => ⟨fr, hl⟩) (h2 (fun r => σ'.putK o.dst r K') (by rw [St.putK_eq]; exact h'))
      have h5 : St.ev G ⟨σ'.n, σ'.env, σ.heap⟩ = σ'.ev G := by funext x; cases x <;> rfl
      rw [h5] at h4
      exact valEv_lite hl _ h4
    | false =>
    refine ⟨_, h1, .val hg hk hl r rfl fun σ' K' he hh h' => ?_⟩
    simp only [evOp, hk]
    exact valEv_tr he hh (h2 _ (by rw [St.putK_eq]; exact h'))
  · simp only [evOp, hk] at h
    split at h
    · rename_i d hd
      obtain ⟨hf, h⟩ := h
      obtain ⟨r, l, h1, h2⟩ := newEv_tr h
      rw [St.putK_eq] at h1
      refine ⟨_, h1, .new hg hk d hd r l (by simpa [St.hp] using hf) rfl fun σ' K' he hn h' => ?_⟩
      simp only [evOp, hk, hd]
      exact ⟨by simp [St.hp, hn], h2 _ _ he (by rw [St.putK_eq]; exact h')⟩
    · exact h.elim
  · simp only [evOp, hk] at h
    cases hst : isSt o with
    | true =>
      obtain ⟨_, hdst, t, a, x, hop⟩ := isSt_spec hst
      rw [hop, hdst] at h
      simp only [wrEv] at h
      split at h
      · rename_i b o' ha
        split at h
        · rename_i l y hl hy
          obtain ⟨c1, c2, c3, c4, row, hrow, hK⟩ := h
          refine ⟨_, hK, .st hg hst b l row hl rfl fun σ' K' he hb h' => ?_⟩
          have ea : σ'.ev G a = σ.ev G a := he a (by rw [hop]; simp [Op.operands])
          have ex : σ'.ev G x = σ.ev G x := he x (by rw [hop]; simp [Op.operands])
          have hp' : σ'.hp b = some (false, l) := hb
          have hk2 : kindOf (Op.store t a x) = 2 := rfl
          simp only [evOp, hop, hk2, hdst, wrEv, ea, ex, ha, hp', hy]
          exact ⟨c1, c2, c3, c4, row, hrow, h'⟩
        · exact h.elim
      · exact h.elim
    | false =>
    obtain ⟨r, τ, h1, ⟨hn, hm, hky, hfd⟩, h2⟩ := wrEv_tr h
    rw [St.putK_eq] at h1
    refine ⟨_, h1, .wr hg hk hst (by cases o.dst <;> exact hn) (fun b l hl => by cases o.dst <;> exact hm b l hl) (fun b hb => by cases o.dst <;> exact hky b hb) (fun h => by cases o.dst <;> exact hfd h) fun σ' K' he h' => ?_⟩
    simp only [evOp, hk]
    exact h2 σ' _ he fun τ' he' => by rw [St.putK_eq]; exact h' _ (he'.put _ _)
  · simp only [evOp, hk] at h
    obtain ⟨fresh, r, bs, h1, hb, h2⟩ := callEv_tr h
    rw [St.putK_eq] at h1
    refine ⟨_, h1, .call hg hk fresh _ bs hb rfl fun σ' K' he hh h' => ?_⟩
    simp only [evOp, hk]
    exact h2 σ' _ he hh (by rw [St.putK_eq]; exact h')

/-- A slot that is known is written with what is known of it: nothing turns. -/
theorem eqv_setBool {σ : St} {g : Nat} {t : Bool} (hg : σ.get g = .d (.bool t)) : Eqv (σ.put (some g) (.d (.bool t))) σ ∧ Eqv σ (σ.put (some g) (.d (.bool t))) := by
  have hget : ∀ u, (σ.put (some g) (.d (.bool t))).get u = σ.get u := by
    intro u
    rw [get_put]
    split
    · rename_i e; subst e; exact hg.symm
    · rfl
  exact ⟨⟨rfl, hget, fun _ => rfl, fun _ l h => ⟨l, h⟩⟩, ⟨rfl, fun u => (hget u).symm, fun _ => rfl, fun _ l h => ⟨l, h⟩⟩⟩

theorem StepOk.congr {ops : Array Oper} {o : Oper} {σ σ0 τ : St} (h : StepOk P G T ops o σ τ) (he : Eqv σ σ0) (he' : Eqv σ0 σ) (hh : σ.heap = σ0.heap) : ∃ τ', StepOk P G T ops o σ0 τ' ∧ Eqv τ τ' ∧ Eqv τ' τ ∧ τ.heap = τ'.heap := by
  have hyes : guardYes ops o σ → guardYes ops o σ0 := by
    rintro (h | ⟨j, want, g, h1, h2, h3⟩)
    · exact .inl h
    · exact .inr ⟨j, want, g, h1, h2, by rw [← he.get]; exact h3⟩
  have hno : guardNo ops o σ → guardNo ops o σ0 := by
    rintro ⟨j, want, g, h1, h2, h3⟩
    exact ⟨j, want, g, h1, h2, by rw [← he.get]; exact h3⟩
  have hsame : ∀ σ', Same G o σ0 σ' → Same G o σ σ' := fun σ' h x hx => (h x hx).trans (he'.ev x)
  have hreach : ∀ σ', Reach G o σ0 σ' → Reach G o σ σ' := fun σ' h x hx b hr fr l hl => by
    refine h x hx b (by rw [he'.ev x]; exact hr) fr l ?_
    show lk σ0.heap b = _
    rw [← hh]; exact hl
  have hput : ∀ (a b : St) (d : Option Nat) (r : A), a.heap = b.heap → (a.put d r).heap = (b.put d r).heap := fun a b d r h => by cases d <;> exact h
  cases h with
  | skip hg h =>
    subst h
    exact ⟨_, .skip (hno hg) rfl, he.put _ _, he'.put _ _, hput _ _ _ _ hh⟩
  | lt hg hl r h t =>
    subst h
    exact ⟨_, .lt (hyes hg) hl r rfl (fun σ' K' h1 h3 => t σ' K' (hsame σ' h1) h3), he.put _ _, he'.put _ _, hput _ _ _ _ hh⟩
  | st hg hs b l row hb h t =>
    subst h
    refine ⟨_, .st (hyes hg) hs b l row (by rw [← hh]; exact hb) rfl (fun σ' K' h1 h2 h3 => t σ' K' (hsame σ' h1) h2 h3), ?_, ?_, by simp [St.wr, hh]⟩
    · exact he.wr b row
    · exact he'.wr b row
  | val hg hk hl r h t =>
    subst h
    exact ⟨_, .val (hyes hg) hk hl r rfl (fun σ' K' h1 h2 h3 => t σ' K' (hsame σ' h1) (hreach σ' h2) h3), he.put _ _, he'.put _ _, hput _ _ _ _ hh⟩
  | new hg hk d hd r l hf h t =>
    subst h
    exact ⟨_, .new (hyes hg) hk d hd r l (by rw [← hh]; exact hf) rfl (fun σ' K' h1 h2 h3 => t σ' K' (hsame σ' h1) h2 h3), (he.new d l).put _ _, (he'.new d l).put _ _, hput _ _ _ _ (by simp [St.new, hh])⟩
  | call hg hk fresh r bs hb h t =>
    subst h
    refine ⟨_, .call (hyes hg) hk fresh r bs (fun b h => by rw [← hh]; exact hb b h) rfl (fun σ' K' h1 h2 h3 => t σ' K' (hsame σ' h1) (hreach σ' h2) h3), ?_, ?_, ?_⟩
    · cases fresh
      · exact (he.freeze bs).put _ _
      · exact he.put _ _
    · cases fresh
      · exact (he'.freeze bs).put _ _
      · exact he'.put _ _
    · refine hput _ _ _ _ ?_
      cases fresh
      · cases bs <;> simp [St.freeze, hh]
      · exact hh
  | wr hg hk hs hn mono keys fd t =>
    exact ⟨τ, .wr (hyes hg) hk hs (hn.trans he.n) (fun b l hl => mono b l (by rw [hh]; exact hl)) (fun b hb => keys b (by rw [hh]; exact hb)) (fun h => fd fun b l hl => h b l (by rw [← hh]; exact hl)) (fun σ' K' h1 h2 => t σ' K' (h1.trans he') h2), Eqv.refl _, Eqv.refl _, rfl⟩

theorem evGuard_split {ops : Array Oper} {σ : St} {o : Oper} {yes no : St → Prop} (h : evGuard ops σ o yes no) :
    ∃ σ', Eqv σ' σ ∧ Eqv σ σ' ∧ σ'.heap = σ.heap ∧ ((guardYes ops o σ' ∧ yes σ') ∨ (guardNo ops o σ' ∧ no σ')) := by
  unfold evGuard at h
  split at h
  · rename_i hg
    exact ⟨σ, Eqv.refl _, Eqv.refl _, rfl, .inl ⟨.inl hg, h⟩⟩
  · rename_i j want hg
    split at h
    · exact h.elim
    · rename_i g hgt
      split at h
      · rename_i t ht
        obtain ⟨e1, e2⟩ := eqv_setBool ht
        cases want <;> cases t
        · exact ⟨_, e1, e2, rfl, .inl ⟨.inr ⟨j, _, g, hg, hgt, by rw [get_put, if_pos rfl]⟩, by have := h.ff rfl; rwa [St.putK_eq] at this⟩⟩
        · exact ⟨_, e1, e2, rfl, .inr ⟨⟨j, _, g, hg, hgt, .inl (by rw [get_put, if_pos rfl]; rfl)⟩, by have := h.tt rfl; rwa [St.putK_eq] at this⟩⟩
        · exact ⟨_, e1, e2, rfl, .inr ⟨⟨j, _, g, hg, hgt, .inl (by rw [get_put, if_pos rfl]; rfl)⟩, by have := h.ff rfl; rwa [St.putK_eq] at this⟩⟩
        · exact ⟨_, e1, e2, rfl, .inl ⟨.inr ⟨j, _, g, hg, hgt, by rw [get_put, if_pos rfl]⟩, by have := h.tt rfl; rwa [St.putK_eq] at this⟩⟩
      · rename_i ht
        exact ⟨σ, Eqv.refl _, Eqv.refl _, rfl, .inr ⟨⟨j, want, g, hg, hgt, .inr ht⟩, h⟩⟩
      · exact h.elim

/-- THE TEXT's ORDER, STEP BY STEP. -/
theorem trace_of {ops : Array Oper} {Q : St → Prop} : ∀ (rest : List Oper) (σ : St), (∀ o ∈ rest, safeOp T o.op = true) → evOps P G T ops rest σ Q →
    ∃ σs : Nat → St, σs 0 = σ ∧ (∃ τ, Q τ ∧ Eqv (σs rest.length) τ ∧ Eqv τ (σs rest.length)) ∧ ∀ i o, rest[i]? = some o → ∃ τ, StepOk P G T ops o (σs i) τ ∧ Eqv τ (σs (i + 1)) ∧ Eqv (σs (i + 1)) τ ∧ (σs (i + 1)).heap = τ.heap
  | [], σ, _, h => ⟨fun _ => σ, rfl, ⟨σ, h, Eqv.refl _, Eqv.refl _⟩, fun i o h => by simp at h⟩
  | o :: rest, σ, hs, h => by
    simp only [evOps] at h
    obtain ⟨σg, e1, e2, hh, hcase⟩ := evGuard_split h
    have key : ∃ τ, StepOk P G T ops o σg τ ∧ evOps P G T ops rest τ Q := by
      rcases hcase with ⟨hg, hy⟩ | ⟨hg, hn⟩
      · obtain ⟨τ, h1, h2⟩ := evOp_step (hs o (by simp)) hg hy
        exact ⟨τ, h2, h1⟩
      · rw [St.putK_eq] at hn
        exact ⟨_, .skip hg rfl, hn⟩
    obtain ⟨τ, hstep, hrest⟩ := key
    obtain ⟨τ', hstep', e3, e4, hh'⟩ := hstep.congr e1 e2 hh
    obtain ⟨σs, h0, hQ, hst⟩ := trace_of rest τ (fun o ho => hs o (by simp [ho])) hrest
    refine ⟨fun i => match i with | 0 => σ | i + 1 => σs i, rfl, hQ, fun i o' hi => ?_⟩
    cases i with
    | zero =>
      simp at hi
      subst hi
      simp only [h0]
      exact ⟨τ', hstep', e4, e3, hh'⟩
    | succ i => exact hst i o' (by simpa using hi)

/-- What must have been done before. -/
def predsOf (o : Oper) : List Nat := (o.after.toList.filter (Region.binds .any)).map (·.on)
inductive Anc (ops : Array Oper) : Nat → Nat → Prop where
  | one {j i : Nat} {o : Oper} (h : ops[j]? = some o) (hi : i ∈ predsOf o) : Anc ops j i
  | more {j p i : Nat} {o : Oper} (h : ops[j]? = some o) (hp : p ∈ predsOf o) (ha : Anc ops p i) : Anc ops j i
def maskOf (acc : List Nat) (ps : List Nat) : Nat := ps.foldl (fun s p => s ||| 2 ^ p ||| acc.getD p 0) 0
def masks : List Oper → List Nat → List Nat
  | [], acc => acc
  | o :: os, acc => masks os (acc ++ [maskOf acc (predsOf o)])
def confl (ops : Array Oper) (x y : Oper) : Bool := !(x.apart ops y) || (kindOf x.op == 2 && !(isSt x && lite y)) || (kindOf y.op == 2 && !(isSt y && lite x))
theorem confl_wr {ops : Array Oper} {x y : Oper} (h : kindOf x.op = 2) (hs : isSt x = false ∨ lite y = false) : confl ops x y = true ∧ confl ops y x = true := by
  unfold confl
  rcases hs with hs | hs <;> simp [h, hs]
def okFrom (ops : Array Oper) (ms : List Nat) : List Oper → Nat → Bool
  | [], _ => true
  | o :: os, j => ((predsOf o).all (· < j)) && ((List.range j).all fun i => match ops[i]? with | some x => !(confl ops x o) || (ms.getD j 0).testBit i | none => true) && okFrom ops ms os (j + 1)
def okDraw (T : Tab) (ops : Array Oper) : Bool := okFrom ops (masks ops.toList []) ops.toList 0 && ops.toList.all fun o => safeOp T o.op

theorem maskOf_bit {ops : Array Oper} {acc : List Nat} {o : Oper} {j : Nat} (ho : ops[j]? = some o) (hacc : ∀ p i, (acc.getD p 0).testBit i = true → Anc ops p i) : ∀ (ps : List Nat) (s i : Nat), (∀ p ∈ ps, p ∈ predsOf o) → (s.testBit i = true → Anc ops j i) →
    (ps.foldl (fun s p => s ||| 2 ^ p ||| acc.getD p 0) s).testBit i = true → Anc ops j i
  | [], s, i, _, hs, h => hs h
  | p :: ps, s, i, hps, hs, h => by
    simp only [List.foldl_cons] at h
    refine maskOf_bit ho hacc ps _ i (fun q hq => hps q (by simp [hq])) (fun h' => ?_) h
    simp only [Nat.testBit_or, Bool.or_eq_true] at h'
    rcases h' with (h' | h') | h'
    · exact hs h'
    · rw [Nat.testBit_two_pow] at h'
      have : p = i := by simpa using h'
      subst this
      exact .one ho (hps p (by simp))
    · exact .more ho (hps p (by simp)) (hacc p i h')

theorem masks_bit {ops : Array Oper} : ∀ (os : List Oper) (acc : List Nat), ops.toList.drop acc.length = os → (∀ p i, (acc.getD p 0).testBit i = true → Anc ops p i) → ∀ p i, ((masks os acc).getD p 0).testBit i = true → Anc ops p i
  | [], acc, _, hacc, p, i, h => hacc p i h
  | o :: os, acc, hd, hacc, p, i, h => by
    simp only [masks] at h
    have ho : ops[acc.length]? = some o := by
      have : (ops.toList.drop acc.length)[0]? = some o := by rw [hd]; rfl
      simpa using this
    refine masks_bit os _ ?_ ?_ p i h
    · have : (ops.toList.drop acc.length).drop 1 = os := by rw [hd]; rfl
      rw [List.drop_drop] at this
      simpa using this
    · intro q k hq
      by_cases hlt : q < acc.length
      · have : (acc ++ [maskOf acc (predsOf o)]).getD q 0 = acc.getD q 0 := by
          simp [List.getElem?_append, hlt]
        rw [this] at hq
        exact hacc q k hq
      · by_cases heq : q = acc.length
        · subst heq
          have : (acc ++ [maskOf acc (predsOf o)]).getD acc.length 0 = maskOf acc (predsOf o) := by simp
          rw [this] at hq
          exact maskOf_bit ho hacc _ 0 k (fun _ h => h) (by simp) hq
        · have : (acc ++ [maskOf acc (predsOf o)]).getD q 0 = 0 := by
            rw [List.getD_eq_getElem?_getD, List.getElem?_eq_none (by simp; omega)]; rfl
          rw [this] at hq
          simp at hq

theorem okFrom_spec {ops : Array Oper} {ms : List Nat} (hms : ∀ p i, (ms.getD p 0).testBit i = true → Anc ops p i) : ∀ (os : List Oper) (j : Nat), ops.toList.drop j = os → okFrom ops ms os j = true →
    ∀ k o, j ≤ k → ops[k]? = some o → (∀ p ∈ predsOf o, p < k) ∧ ∀ i x, i < k → ops[i]? = some x → confl ops x o = true → Anc ops k i
  | [], j, hd, _, k, o, hk, ho => by
    have : ops.toList.length ≤ j := List.drop_eq_nil_iff.1 hd
    have h2 : k < ops.size := by
      rcases Nat.lt_or_ge k ops.size with h | h
      · exact h
      · simp [Array.getElem?_eq_none h] at ho
    simp at this
    omega
  | o0 :: os, j, hd, h, k, o, hk, ho => by
    simp only [okFrom, Bool.and_eq_true] at h
    obtain ⟨⟨h1, h2⟩, h3⟩ := h
    by_cases hkj : k = j
    · subst hkj
      have hoj : ops[k]? = some o0 := by
        have : (ops.toList.drop k)[0]? = some o0 := by rw [hd]; rfl
        simpa using this
      rw [hoj] at ho; cases ho
      refine ⟨fun p hp => by simpa using List.all_eq_true.1 h1 p hp, fun i x hi hx hc => ?_⟩
      have := List.all_eq_true.1 h2 i (by simpa using hi)
      rw [hx] at this
      simp only [hc, Bool.not_true, Bool.false_or] at this
      exact hms k i this
    · refine okFrom_spec hms os (j + 1) ?_ h3 k o (by omega) ho
      have : (ops.toList.drop j).drop 1 = os := by rw [hd]; rfl
      rwa [List.drop_drop] at this

theorem confl_comm {ops : Array Oper} {x y : Oper} (h : confl ops x y = true) : confl ops y x = true := by
  unfold confl at h ⊢
  have hs : ∀ a b : Oper, a.apart ops b = true → b.apart ops a = true := by
    intro a b hab
    obtain ⟨h1, h2, h3⟩ := Oper.apart_spec hab
    unfold Oper.apart
    simp only [Bool.and_eq_true]
    constructor
    · cases hb : b.dst with
      | none => rfl
      | some d =>
        simp only [Bool.and_eq_true, Bool.not_eq_true', bne_iff_ne]
        exact ⟨by simpa using h3 d hb, fun e => h2 d e hb⟩
    · cases ha : a.dst with
      | none => rfl
      | some d => simpa using h1 d ha
  have hxy : x.apart ops y = y.apart ops x := by
    cases h1 : x.apart ops y <;> cases h2 : y.apart ops x
    · rfl
    · rw [hs _ _ h2] at h1; cases h1
    · rw [hs _ _ h1] at h2; cases h2
    · rfl
  rw [hxy] at h
  simp only [Bool.or_eq_true] at h ⊢
  rcases h with (h | h) | h
  · exact .inl (.inl h)
  · exact .inr h
  · exact .inl (.inr h)
end
end Go.Ev
