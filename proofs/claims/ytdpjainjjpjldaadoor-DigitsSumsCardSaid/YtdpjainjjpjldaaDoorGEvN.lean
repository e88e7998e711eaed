/- Contracts of the given functions, on data. Conditions stand in each theorem. -/
import Derived.Test.YtdpjainjjpjldaaDoorGEvA
set_option linter.unusedSimpArgs false
set_option linter.unusedVariables false
namespace Go.Ev
open Go
section
variable {T : Tab} {P : Program} {G : bj}
def bg (ops : Array Oper) (o : Oper) (σ : St) : Prop :=
 o.guard = none ∨ ∃ j want g, o.guard = some (j, want) ∧ zg ops j = some g ∧ σ.get g = .d (.bool want)
def ir (ops : Array Oper) (o : Oper) (σ : St) : Prop :=
 ∃ j want g, o.guard = some (j, want) ∧ zg ops j = some g ∧ (σ.get g = .d (.bool (!want)) ∨ σ.get g = .d (.tup []))
def Reach (G : bj) (o : Oper) (σ σ' : St) : Prop := ∀ x ∈ o.op.operands, ∀ b, cb (σ.ev G x) b → ∀ fr l, σ.hp b = some (fr, l) → ∃ fr', σ'.hp b = some (fr', l)
def ur (G : bj) (o : Oper) (σ σ' : St) : Prop := ∀ x ∈ o.op.operands, σ'.ev G x = σ.ev G x
def gi (o : Oper) : Bool := match o.op with
 | .move _ | .assign _ | .extract _ _ | .binOp _ _ _ _ _ | .unOp _ _ _ => true
 | .call c => match c.callee with
  | .builtin .len => true
  | _ => false
 | _ => false
def eh (o : Oper) : Bool := match o.op, o.dst with
 | .store _ _ _, none => true
 | _, _ => false
theorem fe {o : Oper} (h : gi o = true) : kindOf o.op = 0 := by
 obtain ⟨dst, op, type, pos, after, guard⟩ := o
 unfold gi at h
 cases op with
 | move _ => rfl
 | assign _ => rfl
 | extract _ _ => rfl
 | binOp _ _ _ _ _ => rfl
 | unOp _ _ _ => rfl
 | call c =>
  obtain ⟨callee, args, at_⟩ := c
  simp only at h
  split at h
  ·rfl
  ·cases h
 | _ => cases h
theorem cy {o : Oper} (h : eh o = true) : kindOf o.op = 2 ∧ o.dst = none ∧ ∃ t a x, o.op = .store t a x := by
 unfold eh at h
 split at h
 ·rename_i t a x h1 h2
  exact ⟨by rw [h1]; rfl, h2, t, a, x, h1⟩
 ·cases h
theorem n6 {o : Oper} (h : gi o = true) : eh o = false := by
 cases hs : eh o with
 | false => rfl
 | true => have h1 := fe h; rw [(cy hs).1] at h1; cases h1
theorem ad6 {ev : Operand → A} {hp hp' : Nat → Option (Bool × List A)} {o : Oper} (h : gi o = true) (K : A → Prop) (hv : ez T ev hp o.op K) : ez T ev hp' o.op K := by
 obtain ⟨dst, op, type, pos, after, guard⟩ := o
 unfold gi at h
 cases op with
 | move _ => exact hv
 | assign _ => exact hv
 | extract _ _ => exact hv
 | binOp _ _ _ _ _ => exact hv
 | unOp _ _ _ => exact hv
 | call c =>
  obtain ⟨callee, args, at_⟩ := c
  simp only at h
  split at h
  ·exact hv
  ·cases h
 | _ => cases h
def stb (G : bj) (o : Oper) (σ : St) (b : Nat) : Prop := match o.op with
 | .store _ a _ => cb (σ.ev G a) b
 | _ => False
def rb (G : bj) (o : Oper) (σ : St) (b : Nat) : Prop := ∃ x ∈ o.op.operands, cb (σ.ev G x) b
inductive mc (P : Program) (G : bj) (T : Tab) (ops : Array Oper) (o : Oper) (σ τ : St) : Prop where
 | skip (hg : ir ops o σ) (h : τ = σ.put o.dst (.d (.tup [])))
 | val (hg : bg ops o σ) (hk : kindOf o.op = 0) (hl : gi o = false) (r : A) (h : τ = σ.put o.dst r) (t : ∀ (σ' : St) (K' : St → Prop), ur G o σ σ' → Reach G o σ σ' → K' (σ'.put o.dst r) → jc P G T σ' o K')
 | lt (hg : bg ops o σ) (hl : gi o = true) (r : A) (h : τ = σ.put o.dst r) (t : ∀ (σ' : St) (K' : St → Prop), ur G o σ σ' → K' (σ'.put o.dst r) → jc P G T σ' o K')
 | st (hg : bg ops o σ) (hs : eh o = true) (b : Nat) (l row : List A) (hb : lk σ.heap b = some (false, l)) (h : τ = σ.wr b row) (t : ∀ (σ' : St) (K' : St → Prop), ur G o σ σ' → lk σ'.heap b = some (false, l) → K' (σ'.wr b row) → jc P G T σ' o K') (hr : stb G o σ b)
 | new (hg : bg ops o σ) (hk : kindOf o.op = 1) (d : Nat) (hd : o.dst = some d) (r : A) (l : List A) (hf : lk σ.heap d = none) (h : τ = (σ.new d l).put (some d) r)
   (t : ∀ (σ' : St) (K' : St → Prop), ur G o σ σ' → lk σ'.heap d = none → K' ((σ'.new d l).put (some d) r) → jc P G T σ' o K')
 | call (hg : bg ops o σ) (hk : kindOf o.op = 3) (fresh : Bool) (r : A) (bs : List Nat) (hb : ∀ b ∈ bs, ∃ (fr : Bool) (ds : List D), lk σ.heap b = some (fr, ds.map A.d)) (hbr : ∀ b ∈ bs, rb G o σ b) (h : τ = (if fresh then σ else σ.freeze bs).put o.dst r)
   (t : ∀ (σ' : St) (K' : St → Prop), ur G o σ σ' → Reach G o σ σ' → K' ((if fresh then σ' else σ'.freeze bs).put o.dst r) → jc P G T σ' o K')
 | wr (hg : bg ops o σ) (hk : kindOf o.op = 2) (hs : eh o = false) (hn : τ.n = σ.n) (mono : ∀ b l, lk σ.heap b = some (true, l) → ∃ l', lk τ.heap b = some (true, l')) (keys : ∀ b, lk σ.heap b ≠ none → lk τ.heap b ≠ none) (fd : FD σ → FD τ)
   (t : ∀ (σ' : St) (K' : St → Prop), Eqv σ' σ → (∀ τ', Eqv τ' τ → K' τ') → jc P G T σ' o K')
theorem xx (op : Op) : kindOf op = 0 ∨ kindOf op = 1 ∨ kindOf op = 2 ∨ kindOf op = 3 := by
 unfold kindOf
 split <;> first | simp | (split <;> simp)
theorem xt {ops : Array Oper} {o : Oper} {σ : St} {K : St → Prop} (hs : oi T o.op = true) (hg : bg ops o σ) (h : jc P G T σ o K) : ∃ τ, K τ ∧ mc P G T ops o σ τ := by
 rcases xx o.op with hk | hk | hk | hk
 ·simp only [jc, hk] at h
  obtain ⟨r, h1, h2⟩ := agf hs _ h
  rw [St.bu] at h1
  cases hl : gi o with
  | true =>
   refine ⟨_, h1, .lt hg hl r rfl fun σ' K' he h' => ?_⟩
   simp only [jc, hk]
   have he2 : ur G o σ ⟨σ'.n, σ'.env, σ.heap⟩ := fun x hx => by
    have h3 : St.ev G ⟨σ'.n, σ'.env, σ.heap⟩ x = σ'.ev G x := by cases x <;> rfl
    rw [h3]; exact he x hx
   have h4 := ab1 (ev' := St.ev G ⟨σ'.n, σ'.env, σ.heap⟩) (hp' := σ.hp) he2 (fun x hx b hr fr l hl => ⟨fr, hl⟩) (h2 (fun r => σ'.gl o.dst r K') (by rw [St.bu]; exact h'))
   have h5 : St.ev G ⟨σ'.n, σ'.env, σ.heap⟩ = σ'.ev G := by funext x; cases x <;> rfl
   rw [h5] at h4
   exact ad6 hl _ h4
  | false =>
  refine ⟨_, h1, .val hg hk hl r rfl fun σ' K' he hh h' => ?_⟩
  simp only [jc, hk]
  exact ab1 he hh (h2 _ (by rw [St.bu]; exact h'))
 ·simp only [jc, hk] at h
  split at h
  ·rename_i d hd
   obtain ⟨hf, h⟩ := h
   obtain ⟨r, l, h1, h2⟩ := aht h
   rw [St.bu] at h1
   refine ⟨_, h1, .new hg hk d hd r l (by simpa [St.hp] using hf) rfl fun σ' K' he hn h' => ?_⟩
   simp only [jc, hk, hd]
   exact ⟨by simp [St.hp, hn], h2 _ _ he (by rw [St.bu]; exact h')⟩
  ·exact h.elim
 ·simp only [jc, hk] at h
  cases hst : eh o with
  | true =>
   obtain ⟨_, hdst, t, a, x, hop⟩ := cy hst
   rw [hop, hdst] at h
   simp only [ma] at h
   split at h
   ·rename_i b o' ha
    split at h
    ·rename_i l y hl hy
     obtain ⟨c1, c2, c3, c4, row, hrow, hK⟩ := h
     refine ⟨_, hK, .st hg hst b l row hl rfl (fun σ' K' he hb h' => ?_) (by unfold stb; rw [hop]; simp only; rw [ha]; simp [cb])⟩
     have ea : σ'.ev G a = σ.ev G a := he a (by rw [hop]; simp [Op.operands])
     have ex : σ'.ev G x = σ.ev G x := he x (by rw [hop]; simp [Op.operands])
     have hp' : σ'.hp b = some (false, l) := hb
     have hk2 : kindOf (Op.store t a x) = 2 := rfl
     simp only [jc, hop, hk2, hdst, ma, ea, ex, ha, hp', hy]
     exact ⟨c1, c2, c3, c4, row, hrow, h'⟩
    ·exact h.elim
   ·exact h.elim
  | false =>
  obtain ⟨r, τ, h1, ⟨hn, hm, hky, hfd⟩, h2⟩ := akp h
  rw [St.bu] at h1
  refine ⟨_, h1, .wr hg hk hst (by cases o.dst <;> exact hn) (fun b l hl => by cases o.dst <;> exact hm b l hl) (fun b hb => by cases o.dst <;> exact hky b hb) (fun h => by cases o.dst <;> exact hfd h) fun σ' K' he h' => ?_⟩
  simp only [jc, hk]
  exact h2 σ' _ he fun τ' he' => by rw [St.bu]; exact h' _ (he'.put _ _)
 ·simp only [jc, hk] at h
  obtain ⟨fresh, r, bs, h1, hb, h2⟩ := afg h
  rw [St.bu] at h1
  refine ⟨_, h1, .call hg hk fresh _ bs hb.1 hb.2 rfl fun σ' K' he hh h' => ?_⟩
  simp only [jc, hk]
  exact h2 σ' _ he hh (by rw [St.bu]; exact h')
theorem aaw {σ : St} {g : Nat} {t : Bool} (hg : σ.get g = .d (.bool t)) : Eqv (σ.put (some g) (.d (.bool t))) σ ∧ Eqv σ (σ.put (some g) (.d (.bool t))) := by
 have hget : ∀ u, (σ.put (some g) (.d (.bool t))).get u = σ.get u := by
  intro u
  rw [bl]
  split
  ·rename_i e; subst e; exact hg.symm
  ·rfl
 exact ⟨⟨rfl, hget, fun _ => rfl, fun _ l h => ⟨l, h⟩⟩, ⟨rfl, fun u => (hget u).symm, fun _ => rfl, fun _ l h => ⟨l, h⟩⟩⟩
theorem mc.congr {ops : Array Oper} {o : Oper} {σ σ0 τ : St} (h : mc P G T ops o σ τ) (he : Eqv σ σ0) (he' : Eqv σ0 σ) (hh : σ.heap = σ0.heap) : ∃ τ', mc P G T ops o σ0 τ' ∧ Eqv τ τ' ∧ Eqv τ' τ ∧ τ.heap = τ'.heap := by
 have hyes : bg ops o σ → bg ops o σ0 := by
  rintro (h | ⟨j, want, g, h1, h2, h3⟩)
  ·exact .inl h
  ·exact .inr ⟨j, want, g, h1, h2, by rw [← he.get]; exact h3⟩
 have hno : ir ops o σ → ir ops o σ0 := by
  rintro ⟨j, want, g, h1, h2, h3⟩
  exact ⟨j, want, g, h1, h2, by rw [← he.get]; exact h3⟩
 have hsame : ∀ σ', ur G o σ0 σ' → ur G o σ σ' := fun σ' h x hx => (h x hx).trans (he'.ev x)
 have hreach : ∀ σ', Reach G o σ0 σ' → Reach G o σ σ' := fun σ' h x hx b hr fr l hl => by
  refine h x hx b (by rw [he'.ev x]; exact hr) fr l ?_
  show lk σ0.heap b = _
  rw [← hh]; exact hl
 have hput : ∀ (a b : St) (d : Option Nat) (r : A), a.heap = b.heap → (a.put d r).heap = (b.put d r).heap := fun a b d r h => by cases d <;> exact h
 cases h with
 | skip hg h =>
  subst h
  exact ⟨_, .skip (hno hg) rfl, he.put _ _, he'.put _ _, hput _ _ _ _ hh⟩
 | lt hg hl r h t =>
  subst h
  exact ⟨_, .lt (hyes hg) hl r rfl (fun σ' K' h1 h3 => t σ' K' (hsame σ' h1) h3), he.put _ _, he'.put _ _, hput _ _ _ _ hh⟩
 | st hg hs b l row hb h t hr =>
  subst h
  refine ⟨_, .st (hyes hg) hs b l row (by rw [← hh]; exact hb) rfl (fun σ' K' h1 h2 h3 => t σ' K' (hsame σ' h1) h2 h3) (by
   unfold stb at hr ⊢
   split at hr
   ·rename_i a x _; rw [he'.ev a]; exact hr
   ·exact hr.elim), ?_, ?_, by simp [St.wr, hh]⟩
  ·exact he.wr b row
  ·exact he'.wr b row
 | val hg hk hl r h t =>
  subst h
  exact ⟨_, .val (hyes hg) hk hl r rfl (fun σ' K' h1 h2 h3 => t σ' K' (hsame σ' h1) (hreach σ' h2) h3), he.put _ _, he'.put _ _, hput _ _ _ _ hh⟩
 | new hg hk d hd r l hf h t =>
  subst h
  exact ⟨_, .new (hyes hg) hk d hd r l (by rw [← hh]; exact hf) rfl (fun σ' K' h1 h2 h3 => t σ' K' (hsame σ' h1) h2 h3), (he.new d l).put _ _, (he'.new d l).put _ _, hput _ _ _ _ (by simp [St.new, hh])⟩
 | call hg hk fresh r bs hb hbr h t =>
  subst h
  refine ⟨_, .call (hyes hg) hk fresh r bs (fun b h => by rw [← hh]; exact hb b h) (fun b h => by obtain ⟨x, hx, hr⟩ := hbr b h; exact ⟨x, hx, by rw [he'.ev x]; exact hr⟩) rfl (fun σ' K' h1 h2 h3 => t σ' K' (hsame σ' h1) (hreach σ' h2) h3), ?_, ?_, ?_⟩
  ·cases fresh
   ·exact (he.freeze bs).put _ _
   ·exact he.put _ _
  ·cases fresh
   ·exact (he'.freeze bs).put _ _
   ·exact he'.put _ _
  ·refine hput _ _ _ _ ?_
   cases fresh
   ·cases bs <;> simp [St.freeze, hh]
   ·exact hh
 | wr hg hk hs hn mono keys fd t =>
  exact ⟨τ, .wr (hyes hg) hk hs (hn.trans he.n) (fun b l hl => mono b l (by rw [hh]; exact hl)) (fun b hb => keys b (by rw [hh]; exact hb)) (fun h => fd fun b l hl => h b l (by rw [← hh]; exact hl)) (fun σ' K' h1 h2 => t σ' K' (h1.trans he') h2), Eqv.refl _, Eqv.refl _, rfl⟩
theorem ph {ops : Array Oper} {σ : St} {o : Oper} {yes no : St → Prop} (h : jv ops σ o yes no) :
  ∃ σ', Eqv σ' σ ∧ Eqv σ σ' ∧ σ'.heap = σ.heap ∧ ((bg ops o σ' ∧ yes σ') ∨ (ir ops o σ' ∧ no σ')) := by
 unfold jv at h
 split at h
 ·rename_i hg
  exact ⟨σ, Eqv.refl _, Eqv.refl _, rfl, .inl ⟨.inl hg, h⟩⟩
 ·rename_i j want hg
  split at h
  ·exact h.elim
  ·rename_i g hgt
   split at h
   ·rename_i t ht
    obtain ⟨e1, e2⟩ := aaw ht
    cases want <;> cases t
    ·exact ⟨_, e1, e2, rfl, .inl ⟨.inr ⟨j, _, g, hg, hgt, by rw [bl, if_pos rfl]⟩, by have := h.ff rfl; rwa [St.bu] at this⟩⟩
    ·exact ⟨_, e1, e2, rfl, .inr ⟨⟨j, _, g, hg, hgt, .inl (by rw [bl, if_pos rfl]; rfl)⟩, by have := h.tt rfl; rwa [St.bu] at this⟩⟩
    ·exact ⟨_, e1, e2, rfl, .inr ⟨⟨j, _, g, hg, hgt, .inl (by rw [bl, if_pos rfl]; rfl)⟩, by have := h.ff rfl; rwa [St.bu] at this⟩⟩
    ·exact ⟨_, e1, e2, rfl, .inl ⟨.inr ⟨j, _, g, hg, hgt, by rw [bl, if_pos rfl]⟩, by have := h.tt rfl; rwa [St.bu] at this⟩⟩
   ·rename_i ht
    exact ⟨σ, Eqv.refl _, Eqv.refl _, rfl, .inr ⟨⟨j, want, g, hg, hgt, .inr ht⟩, h⟩⟩
   ·exact h.elim
theorem oj {ops : Array Oper} {Q : St → Prop} : ∀ (rest : List Oper) (σ : St), (∀ o ∈ rest, oi T o.op = true) → pj P G T ops rest σ Q →
  ∃ σs : Nat → St, σs 0 = σ ∧ (∃ τ, Q τ ∧ Eqv (σs rest.length) τ ∧ Eqv τ (σs rest.length)) ∧ ∀ i o, rest[i]? = some o → ∃ τ, mc P G T ops o (σs i) τ ∧ Eqv τ (σs (i + 1)) ∧ Eqv (σs (i + 1)) τ ∧ (σs (i + 1)).heap = τ.heap
 | [], σ, _, h => ⟨fun _ => σ, rfl, ⟨σ, h, Eqv.refl _, Eqv.refl _⟩, fun i o h => by simp at h⟩
 | o :: rest, σ, hs, h => by
  simp only [pj] at h
  obtain ⟨σg, e1, e2, hh, hcase⟩ := ph h
  have key : ∃ τ, mc P G T ops o σg τ ∧ pj P G T ops rest τ Q := by
   rcases hcase with ⟨hg, hy⟩ | ⟨hg, hn⟩
   ·obtain ⟨τ, h1, h2⟩ := xt (hs o (by simp)) hg hy
    exact ⟨τ, h2, h1⟩
   ·rw [St.bu] at hn
    exact ⟨_, .skip hg rfl, hn⟩
  obtain ⟨τ, hstep, hrest⟩ := key
  obtain ⟨τ', hstep', e3, e4, hh'⟩ := hstep.congr e1 e2 hh
  obtain ⟨σs, h0, hQ, hst⟩ := oj rest τ (fun o ho => hs o (by simp [ho])) hrest
  refine ⟨fun i => match i with | 0 => σ | i + 1 => σs i, rfl, hQ, fun i o' hi => ?_⟩
  cases i with
  | zero =>
   simp at hi
   subst hi
   simp only [h0]
   exact ⟨τ', hstep', e4, e3, hh'⟩
  | succ i => exact hst i o' (by simpa using hi)
def bq (o : Oper) : List Nat := (o.after.toList.filter (Region.binds .any)).map (·.on)
inductive Anc (ops : Array Oper) : Nat → Nat → Prop where
 | one {j i : Nat} {o : Oper} (h : ops[j]? = some o) (hi : i ∈ bq o) : Anc ops j i
 | more {j p i : Nat} {o : Oper} (h : ops[j]? = some o) (hp : p ∈ bq o) (ha : Anc ops p i) : Anc ops j i
def vy (acc : List Nat) (ps : List Nat) : Nat := ps.foldl (fun s p => s ||| 2 ^ p ||| acc.getD p 0) 0
def xz : List Oper → List Nat → List Nat
 | [], acc => acc
 | o :: os, acc => xz os (acc ++ [vy acc (bq o)])
def free (rf : Nat → Nat → Bool) (i : Nat) (x : Oper) (j : Nat) (y : Oper) : Bool := eh x && (gi y || ((kindOf y.op == 0 || kindOf y.op == 3) && rf i j))
def fy (rf : Nat → Nat → Bool) (ops : Array Oper) (i : Nat) (x : Oper) (j : Nat) (y : Oper) : Bool := !(x.apart ops y) || (kindOf x.op == 2 && !(free rf i x j y)) || (kindOf y.op == 2 && !(free rf j y i x))
theorem gg {rf : Nat → Nat → Bool} {ops : Array Oper} {i j : Nat} {x y : Oper} (h : kindOf x.op = 2) (hs : eh x = false ∨ (kindOf y.op ≠ 0 ∧ kindOf y.op ≠ 3) ∨ (gi y = false ∧ rf i j = false)) : fy rf ops i x j y = true ∧ fy rf ops j y i x = true := by
 unfold fy free
 rcases hs with hs | hs | ⟨hs, hs'⟩
 ·simp [h, hs]
 ·have hl : gi y = false := by cases hl : gi y with | false => rfl | true => exact absurd (fe hl) hs.1
  simp [h, hs.1, hs.2, hl]
 ·simp [h, hs, hs']
def wb (rf : Nat → Nat → Bool) (ops : Array Oper) (ms : List Nat) : List Oper → Nat → Bool
  | [], _ => true
  | o :: os, j => ((bq o).all (· < j)) && ((List.range j).all fun i => match ops[i]? with | some x => !(fy rf ops i x j o) || (ms.getD j 0).testBit i | none => true) && wb rf ops ms os (j + 1)
def zx (T : Tab) (rf : Nat → Nat → Bool) (ops : Array Oper) : Bool := wb rf ops (xz ops.toList []) ops.toList 0 && ops.toList.all fun o => oi T o.op
def adl (T : Tab) (ops : Array Oper) : Bool := wb (fun _ _ => false) ops (xz ops.toList []) ops.toList 0 && ops.toList.all fun o => oi T o.op
theorem v7 {ops : Array Oper} {acc : List Nat} {o : Oper} {j : Nat} (ho : ops[j]? = some o) (hacc : ∀ p i, (acc.getD p 0).testBit i = true → Anc ops p i) : ∀ (ps : List Nat) (s i : Nat), (∀ p ∈ ps, p ∈ bq o) → (s.testBit i = true → Anc ops j i) →
  (ps.foldl (fun s p => s ||| 2 ^ p ||| acc.getD p 0) s).testBit i = true → Anc ops j i
 | [], s, i, _, hs, h => hs h
 | p :: ps, s, i, hps, hs, h => by
  simp only [List.foldl_cons] at h
  refine v7 ho hacc ps _ i (fun q hq => hps q (by simp [hq])) (fun h' => ?_) h
  simp only [Nat.testBit_or, Bool.or_eq_true] at h'
  rcases h' with (h' | h') | h'
  ·exact hs h'
  ·rw [Nat.testBit_two_pow] at h'
   have : p = i := by simpa using h'
   subst this
   exact .one ho (hps p (by simp))
  ·exact .more ho (hps p (by simp)) (hacc p i h')
theorem r9 {ops : Array Oper} : ∀ (os : List Oper) (acc : List Nat), ops.toList.drop acc.length = os → (∀ p i, (acc.getD p 0).testBit i = true → Anc ops p i) → ∀ p i, ((xz os acc).getD p 0).testBit i = true → Anc ops p i
 | [], acc, _, hacc, p, i, h => hacc p i h
 | o :: os, acc, hd, hacc, p, i, h => by
  simp only [xz] at h
  have ho : ops[acc.length]? = some o := by
   have : (ops.toList.drop acc.length)[0]? = some o := by rw [hd]; rfl
   simpa using this
  refine r9 os _ ?_ ?_ p i h
  ·have : (ops.toList.drop acc.length).drop 1 = os := by rw [hd]; rfl
   rw [List.drop_drop] at this
   simpa using this
  ·intro q k hq
   by_cases hlt : q < acc.length
   ·have : (acc ++ [vy acc (bq o)]).getD q 0 = acc.getD q 0 := by
     simp [List.getElem?_append, hlt]
    rw [this] at hq
    exact hacc q k hq
   ·by_cases heq : q = acc.length
    ·subst heq
     have : (acc ++ [vy acc (bq o)]).getD acc.length 0 = vy acc (bq o) := by simp
     rw [this] at hq
     exact v7 ho hacc _ 0 k (fun _ h => h) (by simp) hq
    ·have : (acc ++ [vy acc (bq o)]).getD q 0 = 0 := by
      rw [List.getD_eq_getElem?_getD, List.getElem?_eq_none (by simp; omega)]; rfl
     rw [this] at hq
     simp at hq
theorem th {rf : Nat → Nat → Bool} {ops : Array Oper} {ms : List Nat} (hms : ∀ p i, (ms.getD p 0).testBit i = true → Anc ops p i) : ∀ (os : List Oper) (j : Nat), ops.toList.drop j = os → wb rf ops ms os j = true →
  ∀ k o, j ≤ k → ops[k]? = some o → (∀ p ∈ bq o, p < k) ∧ ∀ i x, i < k → ops[i]? = some x → fy rf ops i x k o = true → Anc ops k i
 | [], j, hd, _, k, o, hk, ho => by
  have : ops.toList.length ≤ j := List.drop_eq_nil_iff.1 hd
  have h2 : k < ops.size := by
   rcases Nat.lt_or_ge k ops.size with h | h
   ·exact h
   ·simp [Array.getElem?_eq_none h] at ho
  simp at this
  omega
 | o0 :: os, j, hd, h, k, o, hk, ho => by
  simp only [wb, Bool.and_eq_true] at h
  obtain ⟨⟨h1, h2⟩, h3⟩ := h
  by_cases hkj : k = j
  ·subst hkj
   have hoj : ops[k]? = some o0 := by
    have : (ops.toList.drop k)[0]? = some o0 := by rw [hd]; rfl
    simpa using this
   rw [hoj] at ho; cases ho
   refine ⟨fun p hp => by simpa using List.all_eq_true.1 h1 p hp, fun i x hi hx hc => ?_⟩
   have := List.all_eq_true.1 h2 i (by simpa using hi)
   rw [hx] at this
   simp only [hc, Bool.not_true, Bool.false_or] at this
   exact hms k i this
  ·refine th hms os (j + 1) ?_ h3 k o (by omega) ho
   have : (ops.toList.drop j).drop 1 = os := by rw [hd]; rfl
   rwa [List.drop_drop] at this
theorem ach {rf : Nat → Nat → Bool} {ops : Array Oper} {i j : Nat} {x y : Oper} (h : fy rf ops i x j y = true) : fy rf ops j y i x = true := by
 unfold fy at h ⊢
 have hs : ∀ a b : Oper, a.apart ops b = true → b.apart ops a = true := by
  intro a b hab
  obtain ⟨h1, h2, h3⟩ := Oper.apart_spec hab
  unfold Oper.apart
  simp only [Bool.and_eq_true]
  constructor
  ·cases hb : b.dst with
   | none => rfl
   | some d =>
    simp only [Bool.and_eq_true, Bool.not_eq_true', bne_iff_ne]
    exact ⟨by simpa using h3 d hb, fun e => h2 d e hb⟩
  ·cases ha : a.dst with
   | none => rfl
   | some d => simpa using h1 d ha
 have hxy : x.apart ops y = y.apart ops x := by
  cases h1 : x.apart ops y <;> cases h2 : y.apart ops x
  ·rfl
  ·rw [hs _ _ h2] at h1; cases h1
  ·rw [hs _ _ h1] at h2; cases h2
  ·rfl
 rw [hxy] at h
 simp only [Bool.or_eq_true] at h ⊢
 rcases h with (h | h) | h
 ·exact .inl (.inl h)
 ·exact .inr h
 ·exact .inl (.inr h)
end
end Go.Ev

namespace Go.Ev
open Go
section
variable {T : Tab} {P : Program} {G : bj} {rf : Nat → Nat → Bool} {ops : Array Oper} {σs : Nat → St}
def gq (P : Program) (G : bj) (T : Tab) (ops : Array Oper) (o : Oper) (σ τ' : St) : Prop := ∃ τ, mc P G T ops o σ τ ∧ Eqv τ τ' ∧ Eqv τ' τ ∧ τ'.heap = τ.heap
def jt (ops : Array Oper) (i t : Nat) : Prop := ∃ o, ops[i]? = some o ∧ (o.dst = some t ∨ (kindOf o.op = 2 ∧ eh o = false))
def dy (G : bj) (ops : Array Oper) (σs : Nat → St) (i b : Nat) : Prop := ∃ o, ops[i]? = some o ∧ ((kindOf o.op = 2 ∧ (eh o = true → stb G o (σs i) b)) ∨ (kindOf o.op = 1 ∧ o.dst = some b ∧ bg ops o (σs i)))
def ct (σ : St) (b : Nat) : Option (List A) := (lk σ.heap b).map (·.2)
theorem kg {o : Oper} {σ : St} (h1 : bg ops o σ) (h2 : ir ops o σ) : False := by
 obtain ⟨j, want, g, e1, e2, e3⟩ := h2
 rcases h1 with h1 | ⟨j', want', g', e4, e5, e6⟩
 ·rw [h1] at e1; cases e1
 ·rw [e1] at e4
  cases e4
  rw [e2] at e5; cases e5
  rw [e6] at e3
  rcases e3 with e3 | e3
  ·simp only [A.d.injEq, D.bool.injEq] at e3
   cases want <;> cases e3
  ·cases e3
theorem b6 {σ : St} {d : Option Nat} {r : A} {t : Nat} (h : d ≠ some t) : (σ.put d r).get t = σ.get t := by
 cases d with
 | none => rfl
 | some d => rw [bl, if_neg (fun e => h (by rw [e]))]
theorem aq (σ : St) (d : Option Nat) (r : A) : (σ.put d r).heap = σ.heap := by cases d <;> rfl
theorem iw (σ : St) (d : Option Nat) (r : A) : (σ.put d r).n = σ.n := by cases d <;> rfl
theorem ng (σ : St) (b : Nat) (l : List A) (k : Nat) : lk (σ.wr b l).heap k = if k = b then (lk σ.heap k).map fun x => (x.1, l) else lk σ.heap k := du _ _ _ _
theorem afp {σ : St} {b b' : Nat} {l row : List A} (hl : lk σ.heap b = some (true, l)) : ∃ l', lk (σ.wr b' row).heap b = some (true, l') := by
 rw [ng]; split
 ·rw [hl]; exact ⟨row, rfl⟩
 ·exact ⟨l, hl⟩
theorem afo {σ : St} {b b' : Nat} {row : List A} (hl : lk σ.heap b ≠ none) : lk (σ.wr b' row).heap b ≠ none := by
 rw [ng]; split
 ·intro e; exact hl (by simpa using e)
 ·exact hl
theorem ajm {σ : St} {b b' : Nat} {l' l row : List A} (hb : lk σ.heap b' = some (false, l')) (hl : lk (σ.wr b' row).heap b = some (true, l)) (hf : ∀ l, lk σ.heap b = some (true, l) → ∃ ds : List D, l = ds.map A.d) : ∃ ds : List D, l = ds.map A.d := by
 rw [ng] at hl; split at hl
 ·rename_i e; subst e; rw [hb] at hl; cases hl
 ·exact hf l hl
theorem abw {o : Oper} {σ τ : St} (h : gq P G T ops o σ τ) {t : Nat} (h1 : o.dst ≠ some t) (h2 : ¬ (kindOf o.op = 2 ∧ eh o = false)) : τ.get t = σ.get t := by
 obtain ⟨τ0, h, _, he, _⟩ := h
 rw [he.get]
 cases h with
 | skip hg h => rw [h, b6 h1]
 | lt hg hl r h t => rw [h, b6 h1]
 | st hg hs b l row hb h t => rw [h]; rfl
 | val hg hk hl r h t => rw [h, b6 h1]
 | new hg hk d hd r l hf h t => rw [h, b6 (by rw [← hd]; exact h1)]; rfl
 | call hg hk fresh r bs hb hbr h t =>
  rw [h, b6 h1]
  cases fresh
  ·exact jd _ _ _
  ·rfl
 | wr hg hk hs => exact absurd ⟨hk, hs⟩ h2
theorem aim {o : Oper} {σ τ : St} (h : gq P G T ops o σ τ) : τ.n = σ.n := by
 obtain ⟨τ0, h, _, he, _⟩ := h
 rw [he.n]
 cases h with
 | skip hg h => rw [h, iw]
 | lt hg hl r h t => rw [h, iw]
 | st hg hs b l row hb h t => rw [h]; rfl
 | val hg hk hl r h t => rw [h, iw]
 | new hg hk d hd r l hf h t => rw [h, iw]; rfl
 | call hg hk fresh r bs hb hbr h t =>
  rw [h, iw]
  cases fresh
  ·exact ny _ _
  ·rfl
 | wr hg hk hs hn => exact hn
theorem aae {o : Oper} {σ τ : St} (h : gq P G T ops o σ τ) {b : Nat} (h1 : ¬ (kindOf o.op = 2 ∧ (eh o = true → stb G o σ b))) (h2 : ¬ (kindOf o.op = 1 ∧ o.dst = some b ∧ bg ops o σ)) : ct τ b = ct σ b := by
 obtain ⟨τ0, h, _, he, hh⟩ := h
 unfold ct
 rw [hh]
 cases h with
 | skip hg h => rw [h, aq]
 | lt hg hl r h t => rw [h, aq]
 | st hg hs b0 l row hb h t hr =>
  rw [h, ng, if_neg]
  rintro rfl
  exact h1 ⟨(cy hs).1, fun _ => hr⟩
 | val hg hk hl r h t => rw [h, aq]
 | new hg hk d hd r l hf h t =>
  rw [h, aq]
  simp only [St.new, lk]
  rw [if_neg]
  rintro rfl
  exact h2 ⟨hk, hd, hg⟩
 | call hg hk fresh r bs hb hbr h t =>
  rw [h, aq]
  cases fresh
  ·simp only [Bool.false_eq_true, if_false, cx, Option.map_map]; rfl
  ·rfl
 | wr hg hk hs => exact absurd ⟨hk, fun e => by rw [hs] at e; cases e⟩ h1
theorem yp {o : Oper} {σ τ : St} (h : gq P G T ops o σ τ) {b : Nat} {l : List A} (hl : lk σ.heap b = some (true, l)) : ∃ l', lk τ.heap b = some (true, l') := by
 obtain ⟨τ0, h, _, he, hh⟩ := h
 rw [hh]
 cases h with
 | skip hg h => rw [h, aq]; exact ⟨l, hl⟩
 | lt hg hl' r h t => rw [h, aq]; exact ⟨l, hl⟩
 | st hg hs b' l' row hb h t => rw [h]; exact afp hl
 | val hg hk hl' r h t => rw [h, aq]; exact ⟨l, hl⟩
 | new hg hk d hd r l' hf h t =>
  rw [h, aq]
  simp only [St.new, lk]
  rw [if_neg]
  ·exact ⟨l, hl⟩
  ·rintro rfl
   rw [hl] at hf; cases hf
 | call hg hk fresh r bs hb hbr h t =>
  rw [h, aq]
  cases fresh
  ·simp only [Bool.false_eq_true, if_false, cx, hl]; exact ⟨l, rfl⟩
  ·exact ⟨l, hl⟩
 | wr hg hk hs hn mono keys fd t => exact mono b l hl
theorem yo {o : Oper} {σ τ : St} (h : gq P G T ops o σ τ) {b : Nat} (hl : lk σ.heap b ≠ none) : lk τ.heap b ≠ none := by
 obtain ⟨τ0, h, _, he, hh⟩ := h
 rw [hh]
 cases h with
 | skip hg h => rw [h, aq]; exact hl
 | lt hg hl' r h t => rw [h, aq]; exact hl
 | st hg hs b' l' row hb h t => rw [h]; exact afo hl
 | val hg hk hl' r h t => rw [h, aq]; exact hl
 | new hg hk d hd r l' hf h t =>
  rw [h, aq]
  simp only [St.new, lk]
  split
  ·simp
  ·exact hl
 | call hg hk fresh r bs hb hbr h t =>
  rw [h, aq]
  cases fresh
  ·simp only [Bool.false_eq_true, if_false, cx]
   intro e; exact hl (by simpa using e)
  ·exact hl
 | wr hg hk hs hn mono keys fd t => exact keys b hl
theorem ae6 {o : Oper} {σ τ : St} (h : gq P G T ops o σ τ) (hfd : FD σ) : FD τ := by
 obtain ⟨τ0, h, _, he, hh⟩ := h
 intro b l hl
 rw [hh] at hl
 cases h with
 | skip hg h => rw [h, aq] at hl; exact hfd b l hl
 | lt hg hl' r h t => rw [h, aq] at hl; exact hfd b l hl
 | st hg hs b' l' row hb h t => rw [h] at hl; exact ajm hb hl (hfd b)
 | val hg hk hl' r h t => rw [h, aq] at hl; exact hfd b l hl
 | new hg hk d hd r l' hf h t =>
  rw [h, aq] at hl
  simp only [St.new, lk] at hl
  split at hl
  ·cases hl
  ·exact hfd b l hl
 | call hg hk fresh r bs hb hbr h t =>
  rw [h, aq] at hl
  cases fresh with
  | true => exact hfd b l hl
  | false =>
   simp only [Bool.false_eq_true, if_false, cx, Option.map_eq_some_iff] at hl
   obtain ⟨y, hy, e⟩ := hl
   obtain ⟨fr, l2⟩ := y
   simp only [Prod.mk.injEq] at e
   obtain ⟨e3, rfl⟩ := e
   cases fr with
   | true => exact hfd b l2 hy
   | false =>
    simp only [Bool.false_or, List.contains_iff_mem] at e3
    obtain ⟨fr', ds, hds⟩ := hb b e3
    rw [hy] at hds
    cases hds
    exact ⟨ds, rfl⟩
 | wr hg hk hs hn mono keys fd t => exact fd hfd b l hl
variable (hst : ∀ i o, ops[i]? = some o → gq P G T ops o (σs i) (σs (i + 1)))
include hst
theorem sn {i : Nat} (h : i < ops.size) : ∃ o, ops[i]? = some o := by
 have _ := hst
 exact ⟨ops[i], by simp [h]⟩
theorem iz {Q : St → Prop} {a : Nat} (hs : ∀ i o, a ≤ i → ops[i]? = some o → Q (σs i) → Q (σs (i + 1))) (ha : Q (σs a)) : ∀ k, a + k ≤ ops.size → Q (σs (a + k))
 | 0, _ => ha
 | k + 1, hk => by
  obtain ⟨o, ho⟩ := sn hst (i := a + k) (by omega)
  exact hs (a + k) o (by omega) ho (iz hs ha k (by omega))
theorem o2 {a m b : Nat} (ham : a ≤ m) (hm : m ≤ ops.size) (h : lk (σs a).heap b ≠ none) : lk (σs m).heap b ≠ none := by
 have := iz hst (Q := fun σ => lk σ.heap b ≠ none) (a := a) (fun i o _ ho h => yo (hst i o ho) h) h (m - a) (by omega)
 rwa [show a + (m - a) = m by omega] at this
theorem pc {a m b : Nat} (ham : a ≤ m) (hm : m ≤ ops.size) (h : ∃ l, lk (σs a).heap b = some (true, l)) : ∃ l, lk (σs m).heap b = some (true, l) := by
 have := iz hst (Q := fun σ => ∃ l, lk σ.heap b = some (true, l)) (a := a) (fun i o _ ho ⟨l, h⟩ => yp (hst i o ho) h) h (m - a) (by omega)
 rwa [show a + (m - a) = m by omega] at this
theorem adb {m : Nat} (hm : m ≤ ops.size) : (σs m).n = (σs 0).n := by
 have := iz hst (Q := fun σ => σ.n = (σs 0).n) (a := 0) (fun i o _ ho h => (aim (hst i o ho)).trans h) rfl m (by omega)
 rwa [Nat.zero_add] at this
theorem ml {a m t : Nat} (ham : a ≤ m) (hm : m ≤ ops.size) (h : ∀ i, a ≤ i → i < m → ¬ jt ops i t) : (σs m).get t = (σs a).get t := by
 obtain ⟨k, rfl⟩ : ∃ k, m = a + k := ⟨m - a, by omega⟩
 clear ham
 induction k with
 | zero => rfl
 | succ k ih =>
  have hk := ih (by omega) (fun i h1 h2 => h i h1 (by omega))
  obtain ⟨o, ho⟩ := sn hst (i := a + k) (by omega)
  have hn := h (a + k) (by omega) (by omega)
  rw [← Nat.add_assoc, abw (hst _ o ho) (fun e => hn ⟨o, ho, .inl e⟩) (fun e => hn ⟨o, ho, .inr e⟩), hk]
theorem sx {a m b : Nat} (ham : a ≤ m) (hm : m ≤ ops.size) (h : ∀ i, a ≤ i → i < m → ¬ dy G ops σs i b) : ct (σs m) b = ct (σs a) b := by
 obtain ⟨k, rfl⟩ : ∃ k, m = a + k := ⟨m - a, by omega⟩
 clear ham
 induction k with
 | zero => rfl
 | succ k ih =>
  have hk := ih (by omega) (fun i h1 h2 => h i h1 (by omega))
  obtain ⟨o, ho⟩ := sn hst (i := a + k) (by omega)
  have hn := h (a + k) (by omega) (by omega)
  rw [← Nat.add_assoc, aae (hst _ o ho) (fun e => hn ⟨o, ho, .inl e⟩) (fun e => hn ⟨o, ho, .inr e⟩), hk]
def Fz (G : bj) (x : Oper) (σ : St) (b : Nat) : Prop := kindOf x.op ≠ 0 ∧ (kindOf x.op = 3 → rb G x σ b)
structure cn (G : bj) (ops : Array Oper) (σs : Nat → St) (L : Nat → Prop) (σE : St) : Prop where
 n : σE.n = (σs 0).n
 get : ∀ t m, m ≤ ops.size → (∀ i, i < ops.size → jt ops i t → (L i ↔ i < m)) → σE.get t = (σs m).get t
 ct : ∀ b m, m ≤ ops.size → (∀ i, i < ops.size → dy G ops σs i b → (L i ↔ i < m)) → Ev.ct σE b = Ev.ct (σs m) b
 fl : ∀ m, m ≤ ops.size → ∀ b, (∀ i x, ops[i]? = some x → Fz G x (σs i) b → L i → i < m) → ∀ l, lk (σs m).heap b = some (false, l) → ∀ l', lk σE.heap b ≠ some (true, l')
variable {L : Nat → Prop} {σE : St} {j : Nat} {o : Oper}
theorem cn.start : cn G ops σs (fun _ => False) (σs 0) := by
 refine ⟨rfl, fun t m hm h => ?_, fun b m hm h => ?_, fun m hm b _ l hl l' h0 => ?_⟩
 ·exact (ml hst (Nat.zero_le m) hm fun i _ hi ht => (h i (by omega) ht).2 hi).symm
 ·exact (sx hst (Nat.zero_le m) hm fun i _ hi ht => (h i (by omega) ht).2 hi).symm
 ·obtain ⟨l2, h2⟩ := pc hst (Nat.zero_le m) hm ⟨l', h0⟩
  rw [hl] at h2; cases h2
omit hst in
theorem iq {i j : Nat} {x o : Oper} {t : Nat} (hx : x.dst = some t ∨ (kindOf x.op = 2 ∧ eh x = false)) (ht : t ∈ o.looksAt ops ∨ o.dst = some t) : fy rf ops i x j o = true := by
 rcases hx with hx | hx
 ·unfold fy
  have : x.apart ops o = false := by
   cases ha : x.apart ops o with
   | false => rfl
   | true =>
    obtain ⟨h1, h2, _⟩ := Oper.apart_spec ha
    rcases ht with ht | ht
    ·exact absurd ht (h1 t hx)
    ·exact absurd ht (h2 t hx)
  simp [this]
 ·exact (gg hx.1 (.inl hx.2)).1
variable (hj : ops[j]? = some o) (hnj : ¬ L j) (ord1 : ∀ i x, i < j → ops[i]? = some x → fy rf ops i x j o = true → L i) (ord2 : ∀ i x, j < i → ops[i]? = some x → fy rf ops i x j o = true → ¬ L i)
include hj hnj ord1 ord2
omit hst in
theorem y7 {t : Nat} (ht : t ∈ o.looksAt ops ∨ o.dst = some t) : ∀ i, i < ops.size → jt ops i t → (L i ↔ i < j) := by
 rintro i hi ⟨x, hx, hxt⟩
 have hc : fy rf ops i x j o = true := iq hxt ht
 rcases Nat.lt_trichotomy i j with h | h | h
 ·exact ⟨fun _ => h, fun _ => ord1 i x h hx hc⟩
 ·subst h; exact ⟨fun h => absurd h hnj, fun h => absurd h (Nat.lt_irrefl _)⟩
 ·exact ⟨fun hL => absurd hL (ord2 i x h hx hc), fun h' => by omega⟩
omit hst in
theorem aau (hk : kindOf o.op = 2) (hs : eh o = false) : ∀ i, i < ops.size → (L i ↔ i < j) := by
 intro i hi
 obtain ⟨x, hx⟩ : ∃ x, ops[i]? = some x := ⟨ops[i], by simp [hi]⟩
 have hc : fy rf ops i x j o = true := (gg hk (.inl hs)).2
 rcases Nat.lt_trichotomy i j with h | h | h
 ·exact ⟨fun _ => h, fun _ => ord1 i x h hx hc⟩
 ·subst h; exact ⟨fun h => absurd h hnj, fun h => absurd h (Nat.lt_irrefl _)⟩
 ·exact ⟨fun hL => absurd hL (ord2 i x h hx hc), fun h' => by omega⟩
theorem lt_size : j < ops.size := by
 have _ := hst
 have _ := hnj
 have _ := ord1
 have _ := ord2
 rcases Nat.lt_or_ge j ops.size with h | h
 ·exact h
 ·simp [Array.getElem?_eq_none h] at hj
theorem cn.step (hM : cn G ops σs L σE) (hk : kindOf o.op ≠ 2) {σE' : St} (hn : σE'.n = σE.n) (hget1 : ∀ t, o.dst = some t → σE'.get t = (σs (j + 1)).get t) (hget2 : ∀ t, o.dst ≠ some t → σE'.get t = σE.get t)
  (hct1 : ∀ b, kindOf o.op = 1 ∧ o.dst = some b ∧ bg ops o (σs j) → Ev.ct σE' b = Ev.ct (σs (j + 1)) b) (hct2 : ∀ b, ¬ (kindOf o.op = 1 ∧ o.dst = some b ∧ bg ops o (σs j)) → Ev.ct σE' b = Ev.ct σE b)
  (hfl : ∀ b l', lk σE'.heap b = some (true, l') → (∃ l, lk σE.heap b = some (true, l)) ∨ (Fz G o (σs j) b ∧ ∃ l, lk (σs (j + 1)).heap b = some (true, l))) : cn G ops σs (fun i => L i ∨ i = j) σE' := by
 have hjs := lt_size hst hj hnj ord1 ord2
 refine ⟨hn.trans hM.n, fun t m hm h => ?_, fun b m hm h => ?_, fun m hm b h l hl l' h0 => ?_⟩
 ·by_cases ht : o.dst = some t
  ·rw [hget1 t ht]
   have hjm : j < m := (h j hjs ⟨o, hj, .inl ht⟩).1 (.inr rfl)
   refine (ml hst hjm hm fun i h1 h2 htc => ?_).symm
   obtain ⟨x, hx, hxt⟩ := htc
   have hL := (h i (by omega) ⟨x, hx, hxt⟩).2 h2
   rcases hL with hL | hL
   ·exact ord2 i x (by omega) hx (iq hxt (.inr ht)) hL
   ·omega
  ·rw [hget2 t ht]
   refine hM.get t m hm fun i hi htc => ?_
   have := h i hi htc
   have hne : i ≠ j := by
    rintro rfl
    obtain ⟨x, hx, hxt⟩ := htc
    rw [hj] at hx; cases hx
    rcases hxt with hxt | hxt
    ·exact ht hxt
    ·exact hk hxt.1
   exact ⟨fun hL => this.1 (.inl hL), fun hlt => (this.2 hlt).resolve_right hne⟩
 ·by_cases hb : kindOf o.op = 1 ∧ o.dst = some b ∧ bg ops o (σs j)
  ·rw [hct1 b hb]
   have hjm : j < m := (h j hjs ⟨o, hj, .inr hb⟩).1 (.inr rfl)
   refine (sx hst hjm hm fun i h1 h2 htc => ?_).symm
   obtain ⟨x, hx, hxt⟩ := htc
   have hL := (h i (by omega) ⟨x, hx, hxt⟩).2 h2
   rcases hL with hL | hL
   ·refine ord2 i x (by omega) hx ?_ hL
    rcases hxt with hxt | hxt
    ·exact (gg hxt.1 (.inr (.inl (by rw [hb.1]; decide)))).1
    ·exact iq (t := b) (.inl hxt.2.1) (.inr hb.2.1)
   ·omega
  ·rw [hct2 b hb]
   refine hM.ct b m hm fun i hi htc => ?_
   have := h i hi htc
   have hne : i ≠ j := by
    rintro rfl
    obtain ⟨x, hx, hxt⟩ := htc
    rw [hj] at hx; cases hx
    rcases hxt with hxt | hxt
    ·exact hk hxt.1
    ·exact hb hxt
   exact ⟨fun hL => this.1 (.inl hL), fun hlt => (this.2 hlt).resolve_right hne⟩
 ·rcases hfl b l' h0 with ⟨l2, h2⟩ | ⟨hlt, h2⟩
  ·exact hM.fl m hm b (fun i x hx hlx hL => h i x hx hlx (.inl hL)) l hl l2 h2
  ·have hjm : j < m := h j o hj hlt (.inr rfl)
   obtain ⟨l3, h3⟩ := pc hst hjm hm h2
   rw [hl] at h3; cases h3
theorem cn.amn (hM : cn G ops σs L σE) (hk : kindOf o.op = 2) (hs : eh o = false) : Eqv σE (σs j) := by
 have hjs := lt_size hst hj hnj ord1 ord2
 have hall := aau hj hnj ord1 ord2 hk hs
 refine ⟨hM.n.trans (adb hst (Nat.le_of_lt hjs)).symm, fun t => hM.get t j (Nat.le_of_lt hjs) fun i hi _ => hall i hi, fun b => hM.ct b j (Nat.le_of_lt hjs) fun i hi _ => hall i hi, fun b l hl => ?_⟩
 have h1 := hM.ct b j (Nat.le_of_lt hjs) fun i hi _ => hall i hi
 have h2 := hM.fl j (Nat.le_of_lt hjs) b (fun i x hx _ hL => (hall i (by rcases Nat.lt_or_ge i ops.size with h | h <;> simp_all)).1 hL) l hl
 unfold Ev.ct at h1
 rw [hl] at h1
 simp only [Option.map_some, Option.map_eq_some_iff] at h1
 obtain ⟨y, hy, e⟩ := h1
 obtain ⟨fr, l3⟩ := y
 cases fr with
 | true => exact absurd hy (h2 l3)
 | false => exact ⟨l3, hy⟩
theorem cn.fz (hk : kindOf o.op = 2) (hs : eh o = false) {σE' : St} (he : Eqv σE' (σs (j + 1))) : cn G ops σs (fun i => L i ∨ i = j) σE' := by
 have hjs := lt_size hst hj hnj ord1 ord2
 have hall := aau hj hnj ord1 ord2 hk hs
 have hall' : ∀ i, i < ops.size → ((L i ∨ i = j) ↔ i < j + 1) := by
  intro i hi
  rw [hall i hi]
  omega
 refine ⟨he.n.trans (adb hst hjs), fun t m hm h => ?_, fun b m hm h => ?_, fun m hm b h l hl l' h0 => ?_⟩
 ·rw [he.get]
  rcases Nat.le_total (j + 1) m with hle | hle
  ·refine (ml hst hle hm fun i h1 h2 ht => ?_).symm
   have := (hall' i (by omega)).1 ((h i (by omega) ht).2 h2)
   omega
  ·refine ml hst hle hjs fun i h1 h2 ht => ?_
   have := (h i (by omega) ht).1 ((hall' i (by omega)).2 h2)
   omega
 ·have hct : Ev.ct σE' b = Ev.ct (σs (j + 1)) b := he.ct b
  rw [hct]
  rcases Nat.le_total (j + 1) m with hle | hle
  ·refine (sx hst hle hm fun i h1 h2 ht => ?_).symm
   have := (hall' i (by omega)).1 ((h i (by omega) ht).2 h2)
   omega
  ·refine sx hst hle hjs fun i h1 h2 ht => ?_
   have := (h i (by omega) ht).1 ((hall' i (by omega)).2 h2)
   omega
 ·have hjm : j < m := h j o hj ⟨by rw [hk]; decide, fun e => by rw [hk] at e; cases e⟩ (.inr rfl)
  have hct := he.ct b
  rw [h0] at hct
  cases hb : lk (σs (j + 1)).heap b with
  | none => rw [hb] at hct; cases hct
  | some y =>
   obtain ⟨fr, l2⟩ := y
   cases fr with
   | false =>
    obtain ⟨l3, h3⟩ := he.fl b l2 hb
    rw [h0] at h3; cases h3
   | true =>
    obtain ⟨l3, h3⟩ := pc hst hjm hm ⟨l2, hb⟩
    rw [hl] at h3; cases h3
theorem cn.ctS (hM : cn G ops σs L σE) (hs : eh o = true) (b : Nat) : Ev.ct σE b = Ev.ct (σs j) b := by
 have hjs := lt_size hst hj hnj ord1 ord2
 refine hM.ct b j (Nat.le_of_lt hjs) fun i hi ⟨x, hx, hxt⟩ => ?_
 have hc : fy rf ops i x j o = true := by
  refine (gg (cy hs).1 (.inr (.inl ?_))).2
  rcases hxt with hxt | hxt
  ·rw [hxt.1]; decide
  ·rw [hxt.1]; decide
 rcases Nat.lt_trichotomy i j with h | h | h
 ·exact ⟨fun _ => h, fun _ => ord1 i x h hx hc⟩
 ·subst h; exact ⟨fun h => absurd h hnj, fun h => absurd h (Nat.lt_irrefl _)⟩
 ·exact ⟨fun hL => absurd hL (ord2 i x h hx hc), fun h' => by omega⟩
theorem cn.ala (hM : cn G ops σs L σE) (hs : eh o = true) {σE' : St} (hn : σE'.n = σE.n) (hget : ∀ t, σE'.get t = σE.get t) (hct : ∀ b, Ev.ct σE' b = Ev.ct (σs (j + 1)) b)
  (hfl : ∀ b l', lk σE'.heap b = some (true, l') → ∃ l, lk σE.heap b = some (true, l)) : cn G ops σs (fun i => L i ∨ i = j) σE' := by
 have hjs := lt_size hst hj hnj ord1 ord2
 obtain ⟨hk, hd, _⟩ := cy hs
 refine ⟨hn.trans hM.n, fun t m hm h => ?_, fun b m hm h => ?_, fun m hm b h l hl l' h0 => ?_⟩
 ·rw [hget t]
  refine hM.get t m hm fun i hi htc => ?_
  have := h i hi htc
  have hne : i ≠ j := by
   rintro rfl
   obtain ⟨x, hx, hxt⟩ := htc
   rw [hj] at hx; cases hx
   rcases hxt with hxt | hxt
   ·rw [hd] at hxt; cases hxt
   ·rw [hs] at hxt; exact absurd hxt.2 (by decide)
  exact ⟨fun hL => this.1 (.inl hL), fun hlt => (this.2 hlt).resolve_right hne⟩
 ·by_cases htb : stb G o (σs j) b
  ·rw [hct b]
   have hjm : j < m := (h j hjs ⟨o, hj, .inl ⟨hk, fun _ => htb⟩⟩).1 (.inr rfl)
   refine (sx hst hjm hm fun i h1 h2 htc => ?_).symm
   obtain ⟨x, hx, hxt⟩ := htc
   have hL := (h i (by omega) ⟨x, hx, hxt⟩).2 h2
   rcases hL with hL | hL
   ·refine ord2 i x (by omega) hx ((gg hk (.inr (.inl ?_))).2) hL
    rcases hxt with hxt | hxt
    ·rw [hxt.1]; decide
    ·rw [hxt.1]; decide
   ·omega
  ·rw [hct b, aae (hst j o hj) (fun e => htb (e.2 hs)) (fun e => by rw [hk] at e; exact absurd e.1 (by decide)), ← cn.ctS hst hj hnj ord1 ord2 hM hs b]
   refine hM.ct b m hm fun i hi htc => ?_
   have := h i hi htc
   have hne : i ≠ j := by
    rintro rfl
    obtain ⟨x, hx, hxt⟩ := htc
    rw [hj] at hx; cases hx
    rcases hxt with hxt | hxt
    ·exact htb (hxt.2 hs)
    ·rw [hk] at hxt; exact absurd hxt.1 (by decide)
   exact ⟨fun hL => this.1 (.inl hL), fun hlt => (this.2 hlt).resolve_right hne⟩
 ·obtain ⟨l2, h2⟩ := hfl b l' h0
  exact hM.fl m hm b (fun i x hx hlx hL => h i x hx hlx (.inl hL)) l hl l2 h2
end
end Go.Ev

namespace Go.Ev
open Go
section
variable {T : Tab} {P : Program} {G : bj} {rf : Nat → Nat → Bool} {ops : Array Oper} {σs : Nat → St}
variable {w0 : World} {M : Own} {S0 : Imm} {a : Act} {w : World} {β : Own} {S : Imm} {L : Nat → Prop} {σE : St} {j : Nat} {o : Oper}
theorem qj (h : Rel G w0 M S0 σE a w β S) (hg : bg ops o σE) : Region.wanted o (yielded ops a.tmps) = true := by
 rcases hg with hg | ⟨k, want, g, h1, h2, h3⟩
 ·simp [Region.wanted, hg]
 ·have hv := h.get g
  rw [h3] at hv
  simp only [AR, DR] at hv
  have hy : yielded ops a.tmps k = some want := by
   unfold yielded
   unfold zg at h2
   rw [h2]
   rw [Array.getD_eq_getD_getElem?] at hv
   cases hq : a.tmps[g]? with
   | none => rw [hq] at hv; simp [undef] at hv
   | some u => rw [hq] at hv; simp at hv; simp [hq, hv]
  simp [Region.wanted, h1, hy]
theorem so (h : Rel G w0 M S0 σE a w β S) (hg : ir ops o σE) : Region.wanted o (yielded ops a.tmps) = false := by
 obtain ⟨k, want, g, h1, h2, h3⟩ := hg
 have hv := h.get g
 rcases h3 with h3 | h3
 ·rw [h3] at hv
  simp only [AR, DR] at hv
  have hy : yielded ops a.tmps k = some (!want) := by
   unfold yielded
   unfold zg at h2
   rw [h2]
   rw [Array.getD_eq_getD_getElem?] at hv
   cases hq : a.tmps[g]? with
   | none => rw [hq] at hv; simp [undef] at hv
   | some u => rw [hq] at hv; simp at hv; simp [hq, hv]
  simp only [Region.wanted, h1, hy]
  cases want <;> rfl
 ·rw [h3] at hv
  simp only [AR, DR, DRs] at hv
  obtain ⟨vs, hv, hvs⟩ := hv
  have hy : yielded ops a.tmps k = none := by
   unfold yielded
   unfold zg at h2
   rw [h2]
   rw [Array.getD_eq_getD_getElem?] at hv
   cases hq : a.tmps[g]? with
   | none => simp [hq]
   | some u => rw [hq] at hv; simp at hv; subst hv; simp [hq]
  simp [Region.wanted, h1, hy]
mutual
theorem ad7 : ∀ {x : A} {v : Value} {b : Nat}, AR β S w x v → cb x b → β b ≠ none
 | .ptr c o, v, b, h, hr => by
  simp only [cb] at hr
  subst hr
  simp only [AR] at h
  obtain ⟨k, hk, _⟩ := h
  rw [hk]; simp
 | .tptr c t n, v, b, h, hr => by
  simp only [cb] at hr
  subst hr
  simp only [AR] at h
  obtain ⟨k, hk, _⟩ := h
  rw [hk]; simp
 | .town c n e, v, b, h, hr => by
  simp only [cb] at hr
  subst hr
  simp only [AR] at h
  obtain ⟨k, hk, _⟩ := h
  rw [hk]; simp
 | .own c o n sz, v, b, h, hr => by
  simp only [cb] at hr
  subst hr
  simp only [AR] at h
  rcases h with ⟨k, hk, _⟩ | ⟨_, hk, _⟩
  ·rw [hk]; simp
  ·exact hk
 | .d _, v, b, h, hr => by simp only [cb] at hr
 | .elem _, v, b, h, hr => by simp only [cb] at hr
 | .agg l, v, b, h, hr => by
  simp only [cb] at hr
  simp only [AR] at h
  obtain ⟨vs, _, h⟩ := h
  exact qn h hr
 | .tup l, v, b, h, hr => by
  simp only [cb] at hr
  simp only [AR] at h
  obtain ⟨vs, _, h⟩ := h
  exact qn h hr
 | .fn _ l, v, b, h, hr => by
  simp only [cb] at hr
  simp only [AR] at h
  obtain ⟨vs, _, h⟩ := h
  exact qn h hr
theorem qn : ∀ {l : List A} {vs : List Value} {b : Nat}, ARs β S w l vs → od l b → β b ≠ none
 | [], vs, b, _, hr => by simp only [od] at hr
 | x :: l, vs, b, h, hr => by
  simp only [ARs] at h
  obtain ⟨u, us, _, h1, h2⟩ := h
  simp only [od] at hr
  rcases hr with hr | hr
  ·exact ad7 h1 hr
  ·exact qn h2 hr
end
theorem wj (h : Rel G w0 M S0 σE a w β S) {x : Operand} {b : Nat} (hr : cb (σE.ev G x) b) : lk σE.heap b ≠ none :=
 h.keys b (ad7 (h.ev x) hr)
theorem r8 {t : Nat} (h : Operand.tmp t ∈ o.op.operands) : t ∈ o.looksAt ops := by
 unfold Oper.looksAt
 refine List.mem_append.2 (.inl ?_)
 exact List.mem_filterMap.2 ⟨.tmp t, by simpa using h, rfl⟩
theorem k0 {k g : Nat} {want : Bool} (h : o.guard = some (k, want)) (hg : zg ops k = some g) : g ∈ o.looksAt ops := by
 unfold Oper.looksAt
 refine List.mem_append.2 (.inr ?_)
 unfold zg at hg
 simp [h, hg]
variable (hst : ∀ i o, ops[i]? = some o → gq P G T ops o (σs i) (σs (i + 1)))
variable (hsp : ∀ k o, ops[k]? = some o → (∀ p ∈ bq o, p < k) ∧ ∀ i x, i < k → ops[i]? = some x → fy rf ops i x k o = true → Anc ops k i)
variable (hcl : ∀ k o, L k → ops[k]? = some o → ∀ p ∈ bq o, L p)
variable (hrf : ∀ i j x y b, ops[i]? = some x → ops[j]? = some y → rf i j = true → stb G x (σs i) b → rb G y (σs j) b → False)
theorem ke (hcl : ∀ k o, L k → ops[k]? = some o → ∀ p ∈ bq o, L p) {k i : Nat} (h : Anc ops k i) : L k → L i := by
 induction h with
 | one h hi => exact fun hk => hcl _ _ hk h _ hi
 | more h hp ha ih => exact fun hk => ih (hcl _ _ hk h _ hp)
theorem xl (hcl : ∀ k o, L k → ops[k]? = some o → ∀ p ∈ bq o, L p) {k i : Nat} (h : Anc ops k i) (hr : ∀ o, ops[k]? = some o → ∀ p ∈ bq o, L p) : L i := by
 cases h with
 | one h hi => exact hr _ h _ hi
 | more h hp ha => exact ke hcl ha (hr _ h _ hp)
variable (hj : ops[j]? = some o) (hnj : ¬ L j) (hr : ∀ p ∈ bq o, L p)
include hsp hcl hj hr in
theorem o5 : ∀ i x, i < j → ops[i]? = some x → fy rf ops i x j o = true → L i := fun i x hi hx hc =>
 xl hcl ((hsp j o hj).2 i x hi hx hc) (fun o' ho' => by rw [hj] at ho'; cases ho'; exact hr)
include hsp hcl hj hnj in
theorem o6 : ∀ i x, j < i → ops[i]? = some x → fy rf ops i x j o = true → ¬ L i := fun i x hi hx hc hL =>
 hnj (ke hcl ((hsp i x hx).2 j o hi hj (ach hc)) hL)
include hsp hcl hj hnj hr in
theorem ae2 (hM : cn G ops σs L σE) : ur G o (σs j) σE := by
 intro x hx
 cases x with
 | tmp t =>
  have hjs : j < ops.size := by
   rcases Nat.lt_or_ge j ops.size with h | h
   ·exact h
   ·simp [Array.getElem?_eq_none h] at hj
  exact hM.get t j (Nat.le_of_lt hjs) (y7 hj hnj (o5 hsp hcl hj hr) (o6 hsp hcl hj hnj) (.inl (r8 hx)))
 | _ => rfl
include hsp hcl hj hnj hr in
theorem aa0 (hM : cn G ops σs L σE) (hg : bg ops o (σs j)) : bg ops o σE := by
 have hjs : j < ops.size := by
  rcases Nat.lt_or_ge j ops.size with h | h
  ·exact h
  ·simp [Array.getElem?_eq_none h] at hj
 rcases hg with hg | ⟨k, want, g, h1, h2, h3⟩
 ·exact .inl hg
 ·refine .inr ⟨k, want, g, h1, h2, ?_⟩
  rw [hM.get g j (Nat.le_of_lt hjs) (y7 hj hnj (o5 hsp hcl hj hr) (o6 hsp hcl hj hnj) (.inl (k0 h1 h2)))]
  exact h3
include hsp hcl hj hnj hr in
theorem acv (hM : cn G ops σs L σE) (hg : ir ops o (σs j)) : ir ops o σE := by
 have hjs : j < ops.size := by
  rcases Nat.lt_or_ge j ops.size with h | h
  ·exact h
  ·simp [Array.getElem?_eq_none h] at hj
 obtain ⟨k, want, g, h1, h2, h3⟩ := hg
 refine ⟨k, want, g, h1, h2, ?_⟩
 rw [hM.get g j (Nat.le_of_lt hjs) (y7 hj hnj (o5 hsp hcl hj hr) (o6 hsp hcl hj hnj) (.inl (k0 h1 h2)))]
 exact h3
theorem made {i b : Nat} {x : Oper} (hst : ∀ i o, ops[i]? = some o → gq P G T ops o (σs i) (σs (i + 1))) (hx : ops[i]? = some x) (h : kindOf x.op = 1 ∧ x.dst = some b ∧ bg ops x (σs i)) :
  lk (σs i).heap b = none ∧ lk (σs (i + 1)).heap b ≠ none := by
 obtain ⟨τ0, hs, _, _, hh⟩ := hst i x hx
 cases hs with
 | skip hg _ => exact (kg h.2.2 hg).elim
 | lt hg hl _ _ _ => rw [fe hl] at h; exact absurd h.1 (by decide)
 | st hg hs _ _ _ _ _ _ => rw [(cy hs).1] at h; exact absurd h.1 (by decide)
 | val hg hk _ _ _ _ => rw [h.1] at hk; cases hk
 | call hg hk _ _ _ _ _ _ _ => rw [h.1] at hk; cases hk
 | wr hg hk _ _ _ _ _ _ => rw [h.1] at hk; cases hk
 | new hg hk d hd r l hf he t =>
  rw [h.2.1] at hd; cases hd
  refine ⟨hf, ?_⟩
  rw [hh, he]
  simp [St.put, St.new, lk]
include hst hsp hcl hj hnj hr hrf in
theorem abp (hrel : Rel G w0 M S0 σE a w β S) (hM : cn G ops σs L σE) (hk1 : kindOf o.op ≠ 1) (hk2 : kindOf o.op ≠ 2) (hlt : gi o = false) : Reach G o (σs j) σE := by
 intro x hx b hrf' fr l hl
 have hsame := ae2 (G := G) hsp hcl hj hnj hr hM x hx
 have hne := wj (G := G) hrel (x := x) (b := b) (by rw [hsame]; exact hrf')
 have ord1 := o5 hsp hcl hj hr
 have ord2 := o6 hsp hcl hj hnj
 have hjs : j < ops.size := by
  rcases Nat.lt_or_ge j ops.size with h | h
  ·exact h
  ·simp [Array.getElem?_eq_none h] at hj
 have hl' : lk (σs j).heap b = some (fr, l) := hl
 have hcw : ∀ i y, ops[i]? = some y → (kindOf y.op = 2 ∧ (eh y = true → stb G y (σs i) b)) → fy rf ops i y j o = true := fun i y hy hyt => by
  refine (gg hyt.1 ?_).1
  cases hs : eh y with
  | false => exact .inl rfl
  | true =>
   refine .inr (.inr ⟨hlt, ?_⟩)
   cases hq : rf i j with
   | false => rfl
   | true => exact (hrf i j y o b hy hj hq (hyt.2 hs) ⟨x, hx, hrf'⟩).elim
 -- what made the key behind has made it
 have hall : ∀ i x, i < j → ops[i]? = some x → (kindOf x.op = 1 ∧ x.dst = some b ∧ bg ops x (σs i)) → L i := by
  intro i0 x0 hi0 hx0 hm0
  refine Classical.byContradiction fun hn0 => ?_
  obtain ⟨hnone, hsome⟩ := made hst hx0 hm0
  have hcons : ∀ i, i < ops.size → dy G ops σs i b → (L i ↔ i < i0) := by
   rintro i hi ⟨y, hy, hyt⟩
   rcases Nat.lt_trichotomy i i0 with h | h | h
   ·refine ⟨fun _ => h, fun _ => ?_⟩
    rcases hyt with hyt | hyt
    ·exact ord1 i y (by omega) hy (hcw i y hy hyt)
    ·obtain ⟨_, h2⟩ := made hst hy hyt
     exact absurd hnone (o2 hst (a := i + 1) (by omega) (by omega) h2)
   ·subst h
    exact ⟨fun h => absurd h hn0, fun h => absurd h (Nat.lt_irrefl _)⟩
   ·refine ⟨fun hL => ?_, fun h' => by omega⟩
    exfalso
    rcases hyt with hyt | hyt
    ·have hc : fy rf ops i0 x0 i y = true := (gg hyt.1 (.inr (.inl (by rw [hm0.1]; decide)))).2
     exact hn0 (ke hcl ((hsp i y hy).2 i0 x0 h hx0 hc) hL)
    ·obtain ⟨h1, _⟩ := made hst hy hyt
     exact absurd h1 (o2 hst (a := i0 + 1) (by omega) (by omega) hsome)
  have := hM.ct b i0 (by omega) hcons
  unfold ct at this
  rw [hnone] at this
  exact hne (by simpa using this)
 have hcons : ∀ i, i < ops.size → dy G ops σs i b → (L i ↔ i < j) := by
  rintro i hi ⟨y, hy, hyt⟩
  rcases Nat.lt_trichotomy i j with h | h | h
  ·refine ⟨fun _ => h, fun _ => ?_⟩
   rcases hyt with hyt | hyt
   ·exact ord1 i y h hy (hcw i y hy hyt)
   ·exact hall i y h hy hyt
  ·subst h
   rw [hj] at hy; cases hy
   rcases hyt with hyt | hyt
   ·exact absurd hyt.1 hk2
   ·exact absurd hyt.1 hk1
  ·refine ⟨fun hL => ?_, fun h' => by omega⟩
   exfalso
   rcases hyt with hyt | hyt
   ·exact ord2 i y h hy (hcw i y hy hyt) hL
   ·obtain ⟨h1, _⟩ := made hst hy hyt
    exact absurd h1 (o2 hst (a := j) (Nat.le_of_lt h) (by omega) (by rw [hl']; simp))
 have := hM.ct b j (Nat.le_of_lt hjs) hcons
 unfold ct at this
 rw [hl'] at this
 simp only [Option.map_some, Option.map_eq_some_iff] at this
 obtain ⟨y, hy, e⟩ := this
 obtain ⟨fr', l'⟩ := y
 exact ⟨fr', by rw [← e]; exact hy⟩
include hsp hcl hj hnj hr in
theorem aj1 (hM : cn G ops σs L σE) {d : Nat} (hk : kindOf o.op = 1) (hd : o.dst = some d) (hn : lk (σs j).heap d = none) : lk σE.heap d = none := by
 have ord1 := o5 hsp hcl hj hr
 have ord2 := o6 hsp hcl hj hnj
 have hjs : j < ops.size := by
  rcases Nat.lt_or_ge j ops.size with h | h
  ·exact h
  ·simp [Array.getElem?_eq_none h] at hj
 have hcons : ∀ i, i < ops.size → dy G ops σs i d → (L i ↔ i < j) := by
  rintro i hi ⟨y, hy, hyt⟩
  have hc : fy rf ops i y j o = true := by
   rcases hyt with hyt | hyt
   ·exact (gg hyt.1 (.inr (.inl (by rw [hk]; decide)))).1
   ·exact iq (.inl hyt.2.1) (.inr hd)
  rcases Nat.lt_trichotomy i j with h | h | h
  ·exact ⟨fun _ => h, fun _ => ord1 i y h hy hc⟩
  ·subst h; exact ⟨fun h => absurd h hnj, fun h => absurd h (Nat.lt_irrefl _)⟩
  ·exact ⟨fun hL => absurd hL (ord2 i y h hy hc), fun h' => by omega⟩
 have := hM.ct d j (Nat.le_of_lt hjs) hcons
 unfold ct at this
 rw [hn] at this
 simpa using this
theorem wy (hT : bw P T) (hst : ∀ i o, ops[i]? = some o → gq P G T ops o (σs i) (σs (i + 1)))
  (hsp : ∀ k o, ops[k]? = some o → (∀ p ∈ bq o, p < k) ∧ ∀ i x, i < k → ops[i]? = some x → fy rf ops i x k o = true → Anc ops k i)
  (hrf : ∀ i j x y b, ops[i]? = some x → ops[j]? = some y → rf i j = true → stb G x (σs i) b → rb G y (σs j) b → False)
  (hcl : ∀ k o, L k → ops[k]? = some o → ∀ p ∈ bq o, L p) (hj : ops[j]? = some o) (hnj : ¬ L j) (hr : ∀ p ∈ bq o, L p)
  (hdst : ∀ d, o.dst = some d → d < σE.n) (hrel : Rel G w0 M S0 σE a w β S) (hM : cn G ops σs L σE) {K : Act → World → Prop} {Q : Exit → Act → World → Prop}
  (hK : ∀ a w σ' β S, Rel G w0 M S0 σ' a w β S → cn G ops σs (fun i => L i ∨ i = j) σ' → K a w) : wpOp P ops Q j K a w := by
 have ord1 := o5 hsp hcl hj hr
 have ord2 := o6 hsp hcl hj hnj
 have hsame := ae2 (G := G) hsp hcl hj hnj hr hM
 obtain ⟨τ, hs, e1, e2, hh⟩ := hst j o hj
 have hfin : ∀ {K' : St → Prop}, jc P G T σE o K' → bg ops o (σs j) → (∀ σ', K' σ' → cn G ops σs (fun i => L i ∨ i = j) σ') → wpOp P ops Q j K a w := by
  intro K' hev hg hm
  refine mw hj (qj hrel (aa0 hsp hcl hj hnj hr hM hg)) (Oper.wp_mono ?_ (mh hT hrel hdst hev Q))
  rintro a' w' ⟨σ2, β2, S2, hK2, h2, _⟩
  exact hK a' w' σ2 β2 S2 h2 (hm σ2 hK2)
 cases hs with
 | skip hg h =>
  have hw := so hrel (acv hsp hcl hj hnj hr hM hg)
  have hrel' := o7 hrel o.dst hdst
  simp only [wpOp, hj, hw, Bool.false_eq_true, if_false]
  refine hK _ _ _ _ _ hrel' ?_
  by_cases hss : eh o = true
  ·obtain ⟨_, hd, _⟩ := cy hss
   rw [hd]
   refine cn.ala hst hj hnj ord1 ord2 hM hss rfl (fun _ => rfl) (fun b => ?_) (fun b l' hl => ⟨l', hl⟩)
   show Ev.ct σE b = _
   rw [cn.ctS hst hj hnj ord1 ord2 hM hss b]
   unfold ct
   rw [hh, h, aq]
  have hss : eh o = false := by simpa using hss
  by_cases hk : kindOf o.op = 2
  ·refine cn.fz hst hj hnj ord1 ord2 hk hss ?_
   have he := (cn.amn hst hj hnj ord1 ord2 hM hk hss).put o.dst (.d (.tup []))
   rw [← h] at he
   exact he.trans e1
  ·refine cn.step hst hj hnj ord1 ord2 hM hk (iw _ _ _) (fun t ht => ?_) (fun t ht => b6 ht) (fun b hb => (kg hb.2.2 hg).elim) (fun b _ => by simp only [ct, aq]) (fun b l' hl => .inl ⟨l', by rw [aq] at hl; exact hl⟩)
   rw [e2.get, h, ht, bl, if_pos rfl, bl, if_pos rfl]
 | lt hg hl r h t =>
  have hk := fe hl
  refine hfin (K' := fun σ' => σ' = σE.put o.dst r) (t σE _ hsame rfl) hg ?_
  rintro σ' rfl
  refine cn.step hst hj hnj ord1 ord2 hM (by rw [hk]; decide) (iw _ _ _) (fun t ht => ?_) (fun t ht => b6 ht) (fun b hb => by rw [hk] at hb; exact absurd hb.1 (by decide)) (fun b _ => by simp only [ct, aq]) (fun b l' hl => .inl ⟨l', by rw [aq] at hl; exact hl⟩)
  rw [e2.get, h, ht, bl, if_pos rfl, bl, if_pos rfl]
 | st hg hs b l row hb h t hstb =>
  have hcb := cn.ctS hst hj hnj ord1 ord2 hM hs
  have hjs := lt_size hst hj hnj ord1 ord2
  have hfr : lk σE.heap b = some (false, l) := by
   have h1 := hcb b
   unfold ct at h1
   rw [hb] at h1
   simp only [Option.map_some, Option.map_eq_some_iff] at h1
   obtain ⟨y, hy, e⟩ := h1
   obtain ⟨fr, l3⟩ := y
   cases fr with
   | false => rw [hy, ← e]
   | true =>
    exfalso
    refine hM.fl j (Nat.le_of_lt hjs) b (fun i x hx hlx hL => ?_) l hb l3 hy
    rcases Nat.lt_trichotomy i j with hij | hij | hij
    ·exact hij
    ·subst hij; exact absurd hL hnj
    ·by_cases h3 : kindOf x.op = 3
     ·have hlt : gi x = false := by
       cases hl : gi x with
       | false => rfl
       | true => have := fe hl; rw [h3] at this; cases this
      cases hq : rf j i with
      | true => exact (hrf j i o x b hj hx hq hstb (hlx.2 h3)).elim
      | false => exact absurd hL (ord2 i x hij hx (gg (cy hs).1 (.inr (.inr ⟨hlt, hq⟩))).2)
     ·exact absurd hL (ord2 i x hij hx (gg (cy hs).1 (.inr (.inl ⟨hlx.1, h3⟩))).2)
  refine hfin (K' := fun σ' => σ' = σE.wr b row) (t σE _ hsame hfr rfl) hg ?_
  rintro σ' rfl
  refine cn.ala hst hj hnj ord1 ord2 hM hs rfl (fun _ => rfl) (fun b' => ?_) (fun b' l' hl => ?_)
  ·have h1 := hcb b'
   unfold ct at h1 ⊢
   rw [hh, h, ng, ng]
   split
   ·rename_i e; subst e
    rw [hfr, hb]
   ·exact h1
  ·rw [ng] at hl
   split at hl
   ·rename_i e; subst e
    rw [hfr] at hl; cases hl
   ·exact ⟨l', hl⟩
 | val hg hk hlt r h t =>
  refine hfin (K' := fun σ' => σ' = σE.put o.dst r) (t σE _ hsame (abp hst hsp hcl hrf hj hnj hr hrel hM (by rw [hk]; decide) (by rw [hk]; decide) hlt) rfl) hg ?_
  rintro σ' rfl
  refine cn.step hst hj hnj ord1 ord2 hM (by rw [hk]; decide) (iw _ _ _) (fun t ht => ?_) (fun t ht => b6 ht) (fun b hb => by rw [hk] at hb; exact absurd hb.1 (by decide)) (fun b _ => by simp only [ct, aq]) (fun b l' hl => .inl ⟨l', by rw [aq] at hl; exact hl⟩)
  rw [e2.get, h, ht, bl, if_pos rfl, bl, if_pos rfl]
 | new hg hk d hd r l hf h t =>
  refine hfin (K' := fun σ' => σ' = (σE.new d l).put (some d) r) (t σE _ hsame (aj1 hsp hcl hj hnj hr hM hk hd hf) rfl) hg ?_
  rintro σ' rfl
  refine cn.step hst hj hnj ord1 ord2 hM (by rw [hk]; decide) (iw _ _ _) (fun t ht => ?_) (fun t ht => ?_) (fun b hb => ?_) (fun b hb => ?_) (fun b l' hl => .inl ?_)
  ·rw [hd] at ht; cases ht
   rw [e2.get, h, bl, if_pos rfl, bl, if_pos rfl]
  ·rw [b6 (by rw [← hd]; exact ht)]; rfl
  ·have hbd : d = b := by have := hb.2.1; rw [hd] at this; cases this; rfl
   subst hbd
   show (lk _ _).map _ = (lk _ _).map _
   rw [hh, h]
   simp [St.put, St.new, lk]
  ·have hbd : ¬ d = b := fun e => hb ⟨hk, by rw [hd, e], hg⟩
   show (lk _ _).map _ = (lk _ _).map _
   simp only [aq, St.new, lk]
   rw [if_neg hbd]
  ·simp only [aq, St.new, lk] at hl
   split at hl
   ·cases hl
   ·exact ⟨l', hl⟩
 | call hg hk fresh r bs hb hbr h t =>
  refine hfin (K' := fun σ' => σ' = (if fresh then σE else σE.freeze bs).put o.dst r) (t σE _ hsame (abp hst hsp hcl hrf hj hnj hr hrel hM (by rw [hk]; decide) (by rw [hk]; decide) (by cases hl : gi o with | false => rfl | true => have := fe hl; rw [hk] at this; cases this)) rfl) hg ?_
  rintro σ' rfl
  refine cn.step hst hj hnj ord1 ord2 hM (by rw [hk]; decide) ?_ (fun t ht => ?_) (fun t ht => ?_) (fun b hb => by rw [hk] at hb; exact absurd hb.1 (by decide)) (fun b _ => ?_) (fun b l' hl => ?_)
  ·rw [iw]; cases fresh
   ·exact ny _ _
   ·rfl
  ·rw [e2.get, h, ht, bl, if_pos rfl, bl, if_pos rfl]
  ·rw [b6 ht]; cases fresh
   ·exact jd _ _ _
   ·rfl
  ·simp only [ct, aq]
   cases fresh
   ·simp only [Bool.false_eq_true, if_false, cx, Option.map_map]; rfl
   ·rfl
  ·rw [aq] at hl
   cases fresh with
   | true => exact .inl ⟨l', hl⟩
   | false =>
    simp only [Bool.false_eq_true, if_false, cx, Option.map_eq_some_iff] at hl
    obtain ⟨y, hy, e⟩ := hl
    obtain ⟨fr, l2⟩ := y
    simp only [Prod.mk.injEq] at e
    obtain ⟨e3, rfl⟩ := e
    cases fr with
    | true => exact .inl ⟨l2, hy⟩
    | false =>
     simp only [Bool.false_or, List.contains_iff_mem] at e3
     refine .inr ⟨⟨by rw [hk]; decide, fun _ => hbr b e3⟩, ?_⟩
     rw [hh, h, aq]
     simp only [Bool.false_eq_true, if_false, cx]
     cases hq : lk (σs j).heap b with
     | none => obtain ⟨fr', ds, hds⟩ := hb b e3; rw [hq] at hds; cases hds
     | some y =>
      obtain ⟨fr, l3⟩ := y
      exact ⟨l3, by simp [e3]⟩
 | wr hg hk hss hn mono keys fd t =>
  have he := cn.amn hst hj hnj ord1 ord2 hM hk hss
  refine hfin (K' := fun σ' => Eqv σ' τ) (t σE _ he fun τ' h => h) hg fun σ' h => ?_
  exact cn.fz hst hj hnj ord1 ord2 hk hss (h.trans e1)
theorem j7 {listed : Array Bool} {i : Nat} : i ∈ Region.ready .any ops listed ↔ i < ops.size ∧ listed.getD i true = false ∧ ∀ o, ops[i]? = some o → ∀ p ∈ bq o, listed.getD p false = true := by
 unfold Region.ready
 simp only [List.mem_filter, List.mem_range, Bool.and_eq_true, Bool.not_eq_true']
 constructor
 ·rintro ⟨h1, h2, h3⟩
  refine ⟨h1, h2, fun o ho p hp => ?_⟩
  rw [ho] at h3
  simp only [Option.map_some, Option.getD_some, Array.all_eq_true_iff_forall_mem] at h3
  obtain ⟨e, he, rfl⟩ := List.mem_map.1 hp
  obtain ⟨he1, he2⟩ := List.mem_filter.1 he
  have := h3 e (Array.mem_toList_iff.1 he1)
  simpa [he2] using this
 ·rintro ⟨h1, h2, h3⟩
  refine ⟨h1, h2, ?_⟩
  obtain ⟨o, ho⟩ : ∃ o, ops[i]? = some o := ⟨ops[i], by simp [h1]⟩
  rw [ho]
  simp only [Option.map_some, Option.getD_some, Array.all_eq_true_iff_forall_mem]
  intro e he
  cases hb : Region.binds .any e with
  | false => rfl
  | true => simpa using h3 o ho e.on (List.mem_map.2 ⟨e, List.mem_filter.2 ⟨Array.mem_toList_iff.2 he, hb⟩, rfl⟩)
theorem j0 {l : Array Bool} {i : Nat} (h : i < l.size) : l.getD i true = l.getD i false := by
 simp [Array.getD_eq_getD_getElem?, h]
theorem l7 {l : Array Bool} {i k : Nat} (h : i < l.size) : (l.setIfInBounds i true).getD k false = true ↔ l.getD k false = true ∨ k = i := by
 simp only [Array.getD_eq_getD_getElem?, Array.getElem?_setIfInBounds]
 by_cases e : i = k
 ·subst e; simp [h]
 ·rw [if_neg e]
  exact ⟨.inl, fun hh => hh.resolve_right fun e' => e e'.symm⟩
def jo (n : Nat) (l : Array Bool) : Nat := ((List.range n).filter fun i => !l.getD i false).length
theorem rl {l : Array Bool} {n i : Nat} (hi : i < n) (hs : l.size = n) (h : l.getD i false = false) : jo n (l.setIfInBounds i true) + 1 = jo n l := by
 have key : ∀ (is : List Nat), is.Nodup → ((is.filter fun k => !(l.setIfInBounds i true).getD k false).length + (if i ∈ is then 1 else 0)) = (is.filter fun k => !l.getD k false).length := by
  intro is
  induction is with
  | nil => simp
  | cons k is ih =>
   intro hnd
   obtain ⟨hk, hnd⟩ := List.nodup_cons.1 hnd
   have ih := ih hnd
   by_cases e : k = i
   ·subst e
    have h1 : (l.setIfInBounds k true).getD k false = true := (l7 (by omega)).2 (.inr rfl)
    rw [if_neg hk] at ih
    simp only [List.filter_cons, h1, h, List.mem_cons, true_or, if_true]
    simp only [Bool.not_true, Bool.false_eq_true, if_false, Bool.not_false, if_true, List.length_cons]
    omega
   ·have h1 : (l.setIfInBounds i true).getD k false = l.getD k false := by
     have := l7 (l := l) (i := i) (k := k) (by omega)
     cases hq : l.getD k false <;> cases hp : (l.setIfInBounds i true).getD k false <;> simp_all
    have e3 : (if i ∈ k :: is then 1 else 0) = (if i ∈ is then 1 else 0) := by
     by_cases h2 : i ∈ is
     ·rw [if_pos h2, if_pos (List.mem_cons_of_mem _ h2)]
     ·rw [if_neg h2, if_neg fun hh => (List.mem_cons.1 hh).elim (fun e' => e e'.symm) h2]
    rw [e3]
    simp only [List.filter_cons, h1]
    split <;> (try simp only [List.length_cons]) <;> omega
 have := key (List.range n) List.nodup_range
 rw [if_pos (List.mem_range.2 hi)] at this
 exact this
theorem yz (hT : bw P T) (hst : ∀ i o, ops[i]? = some o → gq P G T ops o (σs i) (σs (i + 1)))
  (hsp : ∀ k o, ops[k]? = some o → (∀ p ∈ bq o, p < k) ∧ ∀ i x, i < k → ops[i]? = some x → fy rf ops i x k o = true → Anc ops k i)
  (hrf : ∀ i j x y b, ops[i]? = some x → ops[j]? = some y → rf i j = true → stb G x (σs i) b → rb G y (σs j) b → False)
  (hd : ∀ o ∈ ops.toList, ∀ d, o.dst = some d → d < (σs 0).n) {Q : Exit → Act → World → Prop}
  (hQ : ∀ a w σ' β S, Rel G w0 M S0 σ' a w β S → Eqv σ' (σs ops.size) → Q .normal a w) :
  ∀ (fuel : Nat) (listed : Array Bool) (a : Act) (w : World) (σE : St) (β : Own) (S : Imm), listed.size = ops.size → jo ops.size listed = fuel →
   (∀ k o, listed.getD k false = true → ops[k]? = some o → ∀ p ∈ bq o, listed.getD p false = true) →
   Rel G w0 M S0 σE a w β S → cn G ops σs (fun i => listed.getD i false = true) σE → wpAny P .any ops Q fuel listed a w := by
 have hdone : ∀ (listed : Array Bool) (a : Act) (w : World) (σE : St) (β : Own) (S : Imm), listed.size = ops.size → Rel G w0 M S0 σE a w β S → cn G ops σs (fun i => listed.getD i false = true) σE →
   Region.ready .any ops listed = [] → Q .normal a w := by
  intro listed a w σE β S hsz hrel hM hnil
  have hall : ∀ i, i < ops.size → listed.getD i false = true := by
   intro i
   induction i using Nat.strongRecOn with
   | _ i ih =>
    intro hi
    cases hl : listed.getD i false with
    | true => rfl
    | false =>
     exfalso
     have : i ∈ Region.ready .any ops listed := j7.2 ⟨hi, by rw [j0 (by omega)]; exact hl, fun o ho p hp => by
      have hlt := (hsp i o ho).1 p hp
      exact ih p hlt (by omega)⟩
     rw [hnil] at this
     cases this
  refine hQ a w σE β S hrel ⟨hM.n.trans (adb hst (Nat.le_refl _)).symm, fun t => hM.get t _ (Nat.le_refl _) fun i hi _ => ⟨fun _ => hi, fun _ => hall i hi⟩, fun b => hM.ct b _ (Nat.le_refl _) fun i hi _ => ⟨fun _ => hi, fun _ => hall i hi⟩, fun b l hl => ?_⟩
  have h1 := hM.ct b _ (Nat.le_refl _) fun i hi _ => ⟨fun _ => hi, fun _ => hall i hi⟩
  have h2 := hM.fl _ (Nat.le_refl _) b (fun i x hx _ _ => (Array.getElem?_eq_some_iff.1 hx).1) l hl
  unfold ct at h1
  rw [hl] at h1
  simp only [Option.map_some, Option.map_eq_some_iff] at h1
  obtain ⟨y, hy, e⟩ := h1
  obtain ⟨fr, l3⟩ := y
  cases fr with
  | true => exact absurd hy (h2 l3)
  | false => exact ⟨l3, hy⟩
 intro fuel
 induction fuel with
 | zero =>
  intro listed a w σE β S hsz hu hcl hrel hM
  have hnil : Region.ready .any ops listed = [] := by
   refine List.eq_nil_iff_forall_not_mem.2 fun i hi => ?_
   obtain ⟨h1, h2, _⟩ := j7.1 hi
   have : i ∈ (List.range ops.size).filter fun i => !listed.getD i false := List.mem_filter.2 ⟨List.mem_range.2 h1, by rw [← j0 (by omega), h2]; rfl⟩
   unfold jo at hu
   rw [List.length_eq_zero_iff.1 hu] at this
   cases this
  exact ⟨hnil, hdone listed a w σE β S hsz hrel hM hnil⟩
 | succ fuel ih =>
  intro listed a w σE β S hsz hu hcl hrel hM
  refine ⟨hdone listed a w σE β S hsz hrel hM, fun i hi => ?_⟩
  obtain ⟨h1, h2, h3⟩ := j7.1 hi
  rw [j0 (by omega)] at h2
  obtain ⟨o, ho⟩ : ∃ o, ops[i]? = some o := ⟨ops[i], by simp [h1]⟩
  have hmem : o ∈ ops.toList := by
   have : ops.toList[i]? = some o := by simpa using ho
   exact List.mem_of_getElem? this
  refine wy (L := fun i => listed.getD i false = true) hT hst hsp hrf hcl ho (by rw [h2]; simp) (h3 o ho) (fun d hd' => by rw [hM.n]; exact hd o hmem d hd') hrel hM ?_
  intro a' w' σ' β' S' hrel' hM'
  refine ih (listed.setIfInBounds i true) a' w' σ' β' S' (by simp [hsz]) (by have := rl h1 hsz h2; omega) ?_ hrel' ?_
  ·intro k o' hk ho' p hp
   rw [l7 (by omega)] at hk ⊢
   rcases hk with hk | rfl
   ·exact .inl (hcl k o' hk ho' p hp)
   ·exact .inl (h3 o' ho' p hp)
  ·have : (fun k => (listed.setIfInBounds i true).getD k false = true) = fun k => listed.getD k false = true ∨ k = i := by
    funext k
    exact propext (l7 (by omega))
   rw [this]
   exact hM'
theorem Eqv.ajl {σ' τ : St} (h : Eqv σ' τ) {b : Nat} (hl : lk σ'.heap b = none) : lk τ.heap b = none := by
 have := h.ct b
 rw [hl] at this
 cases hb : lk τ.heap b with
 | none => rfl
 | some x => rw [hb] at this; cases this
theorem Rel.ain {σ' τ : St} (h : Rel G w0 M S0 σ' a w β S) (he : Eqv σ' τ) (hfd : FD τ) : ∃ S', Rel G w0 M S0 τ a w β S' := by
 let bs := (τ.heap.map (·.1)).filter fun b => match lk τ.heap b with | some (true, _) => true | _ => false
 have hct : ∀ b fr l, lk τ.heap b = some (fr, l) → ∃ fr', lk σ'.heap b = some (fr', l) := fun b fr l hl => he.hp hl
 have hmem : ∀ (hp : List (Nat × Bool × List A)) (b : Nat) (x : Bool × List A), lk hp b = some x → b ∈ hp.map (·.1) := by
  intro hp
  induction hp with
  | nil => intro b x h; simp [lk] at h
  | cons y hp ih =>
   intro b x h
   obtain ⟨k, y⟩ := y
   simp only [lk] at h
   split at h
   ·rename_i e; subst e; simp
   ·exact List.mem_cons_of_mem _ (ih b x h)
 have hbs1 : ∀ b l, lk τ.heap b = some (true, l) → b ∈ bs := fun b l hl => List.mem_filter.2 ⟨hmem _ b _ hl, by simp [hl]⟩
 have hbs2 : ∀ b, b ∈ bs → ∃ l, lk τ.heap b = some (true, l) := by
  intro b hb
  have := (List.mem_filter.1 hb).2
  split at this
  ·rename_i l hl; exact ⟨l, hl⟩
  ·cases this
 have hfr := h.freeze (bs := bs) (fun b hb => by
  obtain ⟨l, hl⟩ := hbs2 b hb
  obtain ⟨ds, rfl⟩ := hfd b l hl
  obtain ⟨fr', h1⟩ := hct b _ _ hl
  exact ⟨fr', ds, h1⟩)
 have hflag : ∀ b fr l, lk τ.heap b = some (fr, l) → lk (σ'.freeze bs).heap b = some (fr, l) := by
  intro b fr l hl
  rw [cx]
  cases fr with
  | true =>
   obtain ⟨fr', h1⟩ := hct b _ _ hl
   have : bs.contains b = true := by simpa using hbs1 b l hl
   rw [h1]; simp only [Option.map_some, this, Bool.or_true]
  | false =>
   have h1 := he.hpf hl
   have h2 : lk σ'.heap b = some (false, l) := h1
   have : bs.contains b = false := by
    cases hc : bs.contains b with
    | false => rfl
    | true =>
     obtain ⟨l', h3⟩ := hbs2 b (by simpa using hc)
     rw [hl] at h3; cases h3
   rw [h2]; simp only [Option.map_some, this, Bool.or_false]
 refine ⟨_, { hfr with size := ?_, env := ?_, keys := ?_, rd := ?_, live := ?_, froz := ?_, fd := hfd, nilb := ?_, stay := fun b h1 h2 hb => h.stay b h1 h2 fun e => hb (he.ajl e), small := by rw [← he.n]; exact h.small }⟩
 ·rw [h.size, he.n]
 ·intro t x hx
  have h1 := hfr.get t
  rw [jd, he.get] at h1
  unfold St.get at h1
  rw [hx] at h1
  exact h1
 ·intro b hb
  have h1 := h.keys b hb
  intro e
  exact h1 (he.hpn e)
 ·exact fun b k fr l hb hl => hfr.rd b k fr l hb (hflag b fr l hl)
 ·exact fun b k l hb hl => hfr.live b k l hb (hflag b _ l hl)
 ·exact fun b k l hb hl => hfr.froz b k l hb (hflag b _ l hl)
 ·exact fun b fr l hb hl => hfr.nilb b fr l hb (hflag b fr l hl)
theorem s0 (hT : bw P T) (hm : P.follows .mixedOrders = true) {id : Nat} {σ : St} (hok : zx T rf ops = true) (hd : ∀ o ∈ ops.toList, ∀ d, o.dst = some d → d < σ.n) {Q : Exit → Act → World → Prop} {K : St → Prop}
  (hR : ∀ τ, K τ → ∀ σs : Nat → St, (∀ i o, ops[i]? = some o → gq P G T ops o (σs i) (σs (i + 1))) → Eqv (σs ops.size) τ → ∀ i j x y b, ops[i]? = some x → ops[j]? = some y → rf i j = true → stb G x (σs i) b → rb G y (σs j) b → False)
  (hQ : ∀ a w, py G w0 M S0 σ.n K a w → Q .normal a w) (hrel : Rel G w0 M S0 σ a w β S) (h : pj P G T ops ops.toList σ K) : (Code.region id ops true).wp P Q a w := by
 simp only [zx, Bool.and_eq_true] at hok
 obtain ⟨hok1, hok2⟩ := hok
 obtain ⟨σs, h0, ⟨τ, hK, e1, e2⟩, hst0⟩ := oj ops.toList σ (fun o ho => List.all_eq_true.1 hok2 o ho) h
 have hst : ∀ i o, ops[i]? = some o → gq P G T ops o (σs i) (σs (i + 1)) := fun i o ho => hst0 i o (by simpa using ho)
 have hsp := fun k o => th (ops := ops) (r9 ops.toList [] (by simp) (by intro p i h; simp at h)) ops.toList 0 (by simp) hok1 k o (Nat.zero_le k)
 refine wp_region_any hm ?_
 have hdrew : Rel G w0 M S0 σ a { w with drawn := w.drawn + 1 } β S := hrel.olds (fun _ _ => rfl) rfl rfl rfl (Nat.le_refl _) (fun _ _ h => h) (fun _ _ h => .inl h)
 rw [← h0] at hdrew hd hQ
 refine yz hT hst hsp (hR τ hK σs hst (by simpa using e1)) hd ?_ ops.size (Array.replicate ops.size false) a _ (σs 0) β S (by simp) ?_ ?_ hdrew ?_
 ·intro a' w' σ' β' S' hr he
  have he2 : Eqv σ' τ := he.trans (by simpa using e1)
  have e3 : Eqv τ (σs ops.size) := by simpa using e2
  have hfd0 : FD (σs 0) := by
   intro b l hl
   rw [h0] at hl
   exact hrel.fd b l hl
  have hfdn : FD (σs ops.size) := by
   have := iz hst (Q := FD) (a := 0) (fun i o _ ho h => ae6 (hst i o ho) h) hfd0 ops.size (by omega)
   rwa [Nat.zero_add] at this
  have hfdt : FD τ := by
   intro b l hl
   have e4 : Eqv (σs ops.size) τ := by simpa using e1
   have hc := e3.ct b
   rw [hl] at hc
   cases hb : lk (σs ops.size).heap b with
   | none => rw [hb] at hc; cases hc
   | some y =>
    obtain ⟨fr, l2⟩ := y
    rw [hb] at hc
    simp only [Option.map_some, Option.some.injEq] at hc
    cases fr with
    | true => rw [hc]; exact hfdn b l2 hb
    | false =>
     obtain ⟨l3, h3⟩ := e3.fl b l2 hb
     rw [hl] at h3; cases h3
  obtain ⟨S2, hrel2⟩ := hr.ain he2 hfdt
  exact hQ a' w' ⟨τ, β', S2, hK, hrel2, by rw [e3.n, adb hst (Nat.le_refl _)]⟩
 ·unfold jo
  have : (List.range ops.size).filter (fun i => !(Array.replicate ops.size false).getD i false) = List.range ops.size := by
   refine List.filter_eq_self.2 fun i hi => ?_
   simp [Array.getD_eq_getD_getElem?, Array.getElem?_replicate]
   split <;> rfl
  rw [this]; simp
 ·intro k o hk
  exfalso
  simp [Array.getD_eq_getD_getElem?, Array.getElem?_replicate] at hk
  split at hk <;> cases hk
 ·have : (fun i => (Array.replicate ops.size false).getD i false = true) = fun _ => False := by
   funext i
   simp only [eq_iff_iff, iff_false]
   intro hk
   simp [Array.getD_eq_getD_getElem?, Array.getElem?_replicate] at hk
   split at hk <;> cases hk
  rw [this]
  exact cn.start hst
theorem p5 (hT : bw P T) (hm : P.follows .mixedOrders = true) {id : Nat} {σ : St} (hok : adl T ops = true) (hd : ∀ o ∈ ops.toList, ∀ d, o.dst = some d → d < σ.n) {Q : Exit → Act → World → Prop} {K : St → Prop}
  (hQ : ∀ a w, py G w0 M S0 σ.n K a w → Q .normal a w) (hrel : Rel G w0 M S0 σ a w β S) (h : pj P G T ops ops.toList σ K) : (Code.region id ops true).wp P Q a w :=
 s0 (rf := fun _ _ => false) hT hm hok hd (fun _ _ _ _ _ _ _ _ _ _ _ _ h => by cases h) hQ hrel h
def aa7 : A → Option (List Nat)
 | .ptr b _ => some [b]
 | .tptr b _ _ => some [b]
 | .town b _ _ => some [b]
 | .own b _ _ _ => some [b]
 | .d _ => some []
 | .elem _ => some []
 | .agg _ => none
 | .tup _ => none
 | .fn _ _ => none
theorem qb {a : A} {l : List Nat} {b : Nat} (h : aa7 a = some l) (hr : cb a b) : b ∈ l := by
 cases a <;> simp only [aa7, Option.some.injEq, cb] at h hr
 ·subst h hr; simp
 ·subst h hr; simp
 ·subst h hr; simp
 ·subst h hr; simp
 ·cases h
 ·cases h
 ·cases h
def ace (x y : A) : Bool := match aa7 x, aa7 y with
 | some k, some l => k.all fun b => !l.contains b
 | _, _ => false
theorem aan {x y : A} {b : Nat} (h : ace x y = true) (hx : cb x b) (hy : cb y b) : False := by
 unfold ace at h
 split at h
 ·rename_i k l hk hl
  have := List.all_eq_true.1 h b (qb hk hx)
  have h2 := qb hl hy
  simp [h2] at this
 ·cases h
def ag0 (G : bj) (ops : Array Oper) (τ : St) (i j : Nat) : Bool := match ops[i]?, ops[j]? with
 | some x, some y => match x.op with
  | .store _ a _ => y.op.operands.all fun q => ace (τ.ev G a) (τ.ev G q)
  | _ => false
 | _, _ => false
def qw (G : bj) (ops : Array Oper) (τ : St) : List (Nat × Nat) → Prop
 | [] => True
 | p :: ps => ag0 G ops τ p.1 p.2 = true ∧ qw G ops τ ps
def stays (ops : Array Oper) (i : Nat) : Bool := match ops[i]? with
 | some x => x.op.operands.all fun q => match q with
  | .tmp t => (ops.toList.drop i).all fun o => o.dst != some t
  | _ => true
 | none => false
def amu (ops : Array Oper) : Bool := ops.toList.all fun o => kindOf o.op != 2 || eh o
def zw (T : Tab) (ops : Array Oper) (ps : List (Nat × Nat)) : Bool := zx T (fun i j => ps.contains (i, j)) ops && amu ops && ps.all fun p => stays ops p.1 && stays ops p.2
theorem qx {ops : Array Oper} {τ : St} : ∀ {ps : List (Nat × Nat)}, qw G ops τ ps → ∀ p ∈ ps, ag0 G ops τ p.1 p.2 = true
 | [], _, p, hp => by cases hp
 | q :: ps, h, p, hp => by
  rcases List.mem_cons.1 hp with rfl | hp
  ·exact h.1
  ·exact qx h.2 p hp
theorem wx {ops : Array Oper} {i : Nat} {x : Oper} (h : stays ops i = true) (hx : ops[i]? = some x) {t : Nat} (ht : Operand.tmp t ∈ x.op.operands) : ∀ k o, i ≤ k → ops[k]? = some o → o.dst ≠ some t := by
 intro k o hk ho
 unfold stays at h
 rw [hx] at h
 have h1 := Array.all_eq_true_iff_forall_mem.1 h _ ht
 have h2 : o ∈ ops.toList.drop i := by
  have : (ops.toList.drop i)[k - i]? = some o := by
   rw [List.getElem?_drop, show i + (k - i) = k by omega]; simpa using ho
  exact List.mem_of_getElem? this
 have := List.all_eq_true.1 h1 o h2
 simpa using this
theorem rj {ops : Array Oper} {σs : Nat → St} {τ : St} {i : Nat} {x : Oper} (hst : ∀ i o, ops[i]? = some o → gq P G T ops o (σs i) (σs (i + 1))) (hn : amu ops = true) (h : stays ops i = true) (hx : ops[i]? = some x) (he : Eqv (σs ops.size) τ) {q : Operand} (hq : q ∈ x.op.operands) : τ.ev G q = (σs i).ev G q := by
 cases q with
 | tmp t =>
  have hi : i < ops.size := by
   rcases Nat.lt_or_ge i ops.size with h | h
   ·exact h
   ·simp [Array.getElem?_eq_none h] at hx
  have h1 := ml hst (a := i) (m := ops.size) (t := t) (Nat.le_of_lt hi) (Nat.le_refl _) (fun k hk hk2 htc => by
   obtain ⟨o, ho, hto⟩ := htc
   rcases hto with hto | hto
   ·exact wx h hx hq k o hk ho hto
   ·have hmem : o ∈ ops.toList := by
     have : ops.toList[k]? = some o := by simpa using ho
     exact List.mem_of_getElem? this
    have := List.all_eq_true.1 hn o hmem
    simp [hto.1, hto.2] at this)
  have h2 := he.get t
  show τ.get t = (σs i).get t
  rw [← h1, h2]
 | _ => rfl
structure a8 (p q : Prop) : Prop where
 p : p
 q : q
theorem ac4 (hT : bw P T) (hm : P.follows .mixedOrders = true) {id : Nat} {σ : St} {ps : List (Nat × Nat)} (hok : zw T ops ps = true) (hd : ∀ o ∈ ops.toList, ∀ d, o.dst = some d → d < σ.n) {Q : Exit → Act → World → Prop} {K : St → Prop}
  (hQ : ∀ a w, py G w0 M S0 σ.n K a w → Q .normal a w) (hrel : Rel G w0 M S0 σ a w β S) (h : pj P G T ops ops.toList σ (fun τ => a8 (qw G ops τ ps) (K τ))) : (Code.region id ops true).wp P Q a w := by
 simp only [zw, Bool.and_eq_true] at hok
 obtain ⟨⟨hok, hn⟩, hs⟩ := hok
 refine s0 (rf := fun i j => ps.contains (i, j)) (K := fun τ => a8 (qw G ops τ ps) (K τ)) hT hm hok hd ?_ (fun a w hp => hQ a w ?_) hrel h
 ·rintro τ ⟨hτ, _⟩ σs hst he i j x y b hx hy hp hb ⟨q, hq, hqb⟩
  have hp : (i, j) ∈ ps := by simpa using hp
  have h1 := qx hτ _ hp
  have h2 := List.all_eq_true.1 hs _ hp
  simp only [Bool.and_eq_true] at h2
  unfold ag0 at h1
  simp only [hx, hy] at h1
  unfold stb at hb
  split at hb
  ·rename_i t a v hop
   rw [hop] at h1
   simp only at h1
   have h3 := Array.all_eq_true_iff_forall_mem.1 h1 q hq
   rw [rj hst hn h2.1 hx he (by rw [hop]; simp [Op.operands]), rj hst hn h2.2 hy he hq] at h3
   exact aan h3 hb hqb
  ·exact hb
 ·obtain ⟨σ', β', S', ⟨_, hk⟩, h1, h2⟩ := hp
  exact ⟨σ', β', S', hk, h1, h2⟩
end
end Go.Ev

namespace Go.Ev
open Go
abbrev Hp := List (Nat × Bool × List A)
def St.mem (h : Hp) : St := ⟨0, [], h⟩
def aca : Act := { tmps := #[], defers := [] }
mutual
def A.dx (ks : List Nat) : A → Bool
 | .ptr b _ => ks.contains b
 | .tptr b _ _ => ks.contains b
 | .town b _ _ => ks.contains b
 | .own b _ _ _ => ks.contains b
 | .agg l => A.bc ks l
 | .tup l => A.bc ks l
 | .fn _ l => A.bc ks l
 | _ => true
def A.bc (ks : List Nat) : List A → Bool
 | [] => true
 | x :: l => x.dx ks && A.bc ks l
end
@[simp] theorem A.eu (ks : List Nat) : ∀ l : List D, A.bc ks (l.map A.d) = true
 | [] => rfl
 | x :: l => by simp [A.bc, A.dx, A.eu ks l]
theorem gz {ks : List Nat} : ∀ {l : List A}, A.bc ks l = true → ∀ {j : Nat} {x : A}, l[j]? = some x → x.dx ks = true
 | [], _, j, x, h => by simp at h
 | y :: l, h, 0, x, hx => by
  simp only [A.bc, Bool.and_eq_true] at h
  simp at hx; subst hx; exact h.1
 | y :: l, h, j + 1, x, hx => by
  simp only [A.bc, Bool.and_eq_true] at h
  exact gz h.2 (j := j) (by simpa using hx)
structure qp (P : Program) (G : bj) (f : FuncId) (args : List A) (hin : Hp) (r : A) (hout : Hp) : Prop where
 can : fb P f = true
 refArgs : A.bc (hin.map (·.1)) args = true
 refIn : ∀ x ∈ hin, A.bc (hin.map (·.1)) x.2.2 = true
 refRes : r.dx (hout.map (·.1)) = true
 refOut : ∀ x ∈ hout, A.bc (hout.map (·.1)) x.2.2 = true
 run : ∀ (S : Imm) (w : World) (β : Own) (vs : List Value), Rel G w β S (St.mem hin) aca w β S → ARs β S w args vs →
  Calls P f vs.toArray w fun e w' => ∃ v β' S', e = .returned v ∧ Rel G w β S (St.mem hout) aca w' β' S' ∧ AR β' S' w' r v
def rn (ρ : List (Nat × Nat)) (b : Nat) : Nat := (lk ρ b).getD b
mutual
def A.ren (ρ : List (Nat × Nat)) : A → A
 | .ptr b o => .ptr (rn ρ b) o
 | .tptr b t n => .tptr (rn ρ b) t n
 | .town b n e => .town (rn ρ b) n e
 | .own b o n s => .own (rn ρ b) o n s
 | .agg l => .agg (A.lj ρ l)
 | .tup l => .tup (A.lj ρ l)
 | .fn f l => .fn f (A.lj ρ l)
 | x => x
def A.lj (ρ : List (Nat × Nat)) : List A → List A
 | [] => []
 | x :: l => x.ren ρ :: A.lj ρ l
end
@[simp] theorem A.l5 (ρ : List (Nat × Nat)) : ∀ l : List D, A.lj ρ (l.map A.d) = l.map A.d
 | [] => rfl
 | x :: l => by simp [A.lj, A.ren, A.l5 ρ l]
theorem o9 (ρ : List (Nat × Nat)) : ∀ l : List A, A.lj ρ l = l.map (A.ren ρ)
 | [] => rfl
 | x :: l => by simp [A.lj, o9 ρ l]
mutual
theorem uj {β β' : Own} {S : Imm} {w : World} {ρ : List (Nat × Nat)} {ks : List Nat} (h : ∀ b, ks.contains b = true → β' (rn ρ b) = β b) : ∀ {x : A} {v : Value}, x.dx ks = true → (AR β S w x v ↔ AR β' S w (x.ren ρ) v)
 | .d x, v, _ => by simp only [A.ren, AR]
 | .elem x, v, _ => by simp only [A.ren, AR]
 | .ptr b o, v, hr => by
  simp only [A.dx] at hr
  simp only [A.ren, AR, h b hr]
 | .tptr b t n, v, hr => by
  simp only [A.dx] at hr
  simp only [A.ren, AR, h b hr]
 | .town b n e, v, hr => by
  simp only [A.dx] at hr
  simp only [A.ren, AR, h b hr]
 | .own b o n s, v, hr => by
  simp only [A.dx] at hr
  simp only [A.ren, AR, h b hr]
 | .agg l, v, hr => by
  simp only [A.dx] at hr
  simp only [A.ren, AR]
  constructor
  ·rintro ⟨vs, h1, h2⟩; exact ⟨vs, h1, (kr h hr).1 h2⟩
  ·rintro ⟨vs, h1, h2⟩; exact ⟨vs, h1, (kr h hr).2 h2⟩
 | .tup l, v, hr => by
  simp only [A.dx] at hr
  simp only [A.ren, AR]
  constructor
  ·rintro ⟨vs, h1, h2⟩; exact ⟨vs, h1, (kr h hr).1 h2⟩
  ·rintro ⟨vs, h1, h2⟩; exact ⟨vs, h1, (kr h hr).2 h2⟩
 | .fn f l, v, hr => by
  simp only [A.dx] at hr
  simp only [A.ren, AR]
  constructor
  ·rintro ⟨vs, h1, h2⟩; exact ⟨vs, h1, (kr h hr).1 h2⟩
  ·rintro ⟨vs, h1, h2⟩; exact ⟨vs, h1, (kr h hr).2 h2⟩
theorem kr {β β' : Own} {S : Imm} {w : World} {ρ : List (Nat × Nat)} {ks : List Nat} (h : ∀ b, ks.contains b = true → β' (rn ρ b) = β b) : ∀ {l : List A} {vs : List Value}, A.bc ks l = true → (ARs β S w l vs ↔ ARs β' S w (A.lj ρ l) vs)
 | [], vs, _ => by simp only [A.lj, ARs]
 | x :: l, vs, hr => by
  simp only [A.bc, Bool.and_eq_true] at hr
  simp only [A.lj, ARs]
  constructor
  ·rintro ⟨u, us, h1, h2, h3⟩; exact ⟨u, us, h1, (uj h hr.1).1 h2, (kr h hr.2).1 h3⟩
  ·rintro ⟨u, us, h1, h2, h3⟩; exact ⟨u, us, h1, (uj h hr.1).2 h2, (kr h hr.2).2 h3⟩
end
mutual
def A.kl (mv : List Nat) : A → A
 | .ptr b o => if mv.contains b then .d .any else .ptr b o
 | .tptr b t n => if mv.contains b then .d .any else .tptr b t n
 | .town b n e => if mv.contains b then .d .any else .town b n e
 | .own b o n s => if mv.contains b then .d .any else .own b o n s
 | .agg l => .agg (A.kls mv l)
 | .tup l => .tup (A.kls mv l)
 | .fn f l => .fn f (A.kls mv l)
 | x => x
def A.kls (mv : List Nat) : List A → List A
 | [] => []
 | x :: l => x.kl mv :: A.kls mv l
end
mutual
theorem agl {β β' : Own} {S : Imm} {w : World} {mv : List Nat} (h : ∀ b, mv.contains b = false → β' b = β b) : ∀ {x : A} {v : Value}, AR β S w x v → AR β' S w (x.kl mv) v
 | .d x, v, hx => by simpa only [A.kl, AR] using hx
 | .elem x, v, hx => by simpa only [A.kl, AR] using hx
 | .ptr b o, v, hx => by
  simp only [A.kl]
  split
  ·simp only [AR, DR]
  ·rename_i hb
   simp only [AR, h b (by simpa using hb)] at hx ⊢; exact hx
 | .tptr b t n, v, hx => by
  simp only [A.kl]
  split
  ·simp only [AR, DR]
  ·rename_i hb
   simp only [AR, h b (by simpa using hb)] at hx ⊢; exact hx
 | .town b n e, v, hx => by
  simp only [A.kl]
  split
  ·simp only [AR, DR]
  ·rename_i hb
   simp only [AR, h b (by simpa using hb)] at hx ⊢; exact hx
 | .own b o n s, v, hx => by
  simp only [A.kl]
  split
  ·simp only [AR, DR]
  ·rename_i hb
   simp only [AR, h b (by simpa using hb)] at hx ⊢; exact hx
 | .agg l, v, hx => by
  simp only [A.kl, AR] at hx ⊢
  obtain ⟨vs, h1, h2⟩ := hx
  exact ⟨vs, h1, yw h h2⟩
 | .tup l, v, hx => by
  simp only [A.kl, AR] at hx ⊢
  obtain ⟨vs, h1, h2⟩ := hx
  exact ⟨vs, h1, yw h h2⟩
 | .fn f l, v, hx => by
  simp only [A.kl, AR] at hx ⊢
  obtain ⟨vs, h1, h2⟩ := hx
  exact ⟨vs, h1, yw h h2⟩
theorem yw {β β' : Own} {S : Imm} {w : World} {mv : List Nat} (h : ∀ b, mv.contains b = false → β' b = β b) : ∀ {l : List A} {vs : List Value}, ARs β S w l vs → ARs β' S w (A.kls mv l) vs
 | [], vs, hx => by simpa only [A.kls, ARs] using hx
 | x :: l, vs, hx => by
  simp only [A.kls, ARs] at hx ⊢
  obtain ⟨u, us, h1, h2, h3⟩ := hx
  exact ⟨u, us, h1, agl h h2, yw h h3⟩
end
theorem ac3 (mv : List Nat) : ∀ l : List A, A.kls mv l = l.map (A.kl mv)
 | [] => rfl
 | x :: l => by simp [A.kls, ac3 mv l]
theorem zl (mv : List Nat) : ∀ l : List D, A.kls mv (l.map A.d) = l.map A.d
 | [] => rfl
 | x :: l => by simp [A.kls, A.kl, zl mv l]
def klE (mv : List Nat) (env : List (Nat × A)) : List (Nat × A) := match mv with
 | [] => env
 | mv => env.map fun x => (x.1, x.2.kl mv)
def klH (mv : List Nat) (h : Hp) : Hp := match mv with
 | [] => h
 | mv => h.map fun x => (x.1, x.2.1, A.kls mv x.2.2)
theorem vr (x : A) : x.kl [] = x := by
 match x with
 | .d _ => rfl
 | .elem _ => rfl
 | .ptr _ _ => rfl
 | .tptr _ _ _ => rfl
 | .town _ _ _ => rfl
 | .own _ _ _ _ => rfl
 | .agg l => rw [A.kl, kls_nil l]
 | .tup l => rw [A.kl, kls_nil l]
 | .fn f l => rw [A.kl, kls_nil l]
where kls_nil : ∀ l : List A, A.kls [] l = l
 | [] => rfl
 | x :: l => by rw [A.kls, vr x, kls_nil l]
theorem zk (mv : List Nat) (env : List (Nat × A)) (t : Nat) : lk (klE mv env) t = (lk env t).map (A.kl mv) := by
 cases mv with
 | nil =>
  show lk env t = _
  rw [show A.kl [] = id from funext vr, Option.map_id]; rfl
 | cons b mv =>
  show lk (env.map fun x => (x.1, x.2.kl (b :: mv))) t = _
  induction env with
  | nil => rfl
  | cons y env ih =>
   obtain ⟨k, y⟩ := y
   simp only [List.map_cons, lk]
   split
   ·rfl
   ·exact ih
theorem ac2 (mv : List Nat) (h : Hp) (t : Nat) : lk (klH mv h) t = (lk h t).map fun x => (x.1, A.kls mv x.2) := by
 cases mv with
 | nil =>
  show lk h t = _
  rw [show (fun x : Bool × List A => (x.1, A.kls [] x.2)) = id from funext fun x => by rw [vr.kls_nil]; rfl, Option.map_id]; rfl
 | cons b mv =>
  show lk (h.map fun x => (x.1, x.2.1, A.kls (b :: mv) x.2.2)) t = _
  induction h with
  | nil => rfl
  | cons y h ih =>
   obtain ⟨k, y⟩ := y
   simp only [List.map_cons, lk]
   split
   ·rfl
   ·exact ih
inductive j8 (hp : Nat → Option (Bool × List A)) (ρ : List (Nat × Nat)) : List A → List A → List Nat → Prop where
 | nil : j8 hp ρ [] [] []
 | data {x : D} {a : A} {b1 bs : List Nat} {cs as : List A} (h : gx hp a fun y b => y = x ∧ b = b1) (t : j8 hp ρ cs as bs) : j8 hp ρ (.d x :: cs) (a :: as) (b1 ++ bs)
 | own {c a : A} {bs : List Nat} {cs as : List A} (h : a = c.ren ρ) (t : j8 hp ρ cs as bs) : j8 hp ρ (c :: cs) (a :: as) bs
def nj (heap : Hp) (ρ : List (Nat × Nat)) : Hp → Prop
 | [] => True
 | (b, f, l) :: h => (lk heap (rn ρ b) = some (false, A.lj ρ l) ∧ f = false) ∧ nj heap ρ h
theorem nj.get {heap : Hp} {ρ : List (Nat × Nat)} : ∀ {h : Hp}, nj heap ρ h → ∀ {b : Nat} {fr : Bool} {l : List A}, lk h b = some (fr, l) → lk heap (rn ρ b) = some (false, A.lj ρ l) ∧ fr = false
 | [], _, b, fr, l, hl => by simp [lk] at hl
 | (c, f, m) :: h, hi, b, fr, l, hl => by
  simp only [lk] at hl
  split at hl
  ·rename_i e
   subst e
   cases hl
   exact hi.1
  ·exact nj.get hi.2 hl
def fg : List Nat → Bool
 | [] => true
 | x :: l => !l.contains x && fg l
def n9 (ρ ν : List (Nat × Nat)) (heap : Hp) (kin kout : List Nat) : Bool :=
 fg ((ρ ++ ν).map (·.1)) && fg ((ρ ++ ν).map (·.2)) && (kin.all fun b => (ρ.map (·.1)).contains b) && ((ρ.map (·.1)).all fun b => kin.contains b) &&
 (kout.all fun b => ((ρ ++ ν).map (·.1)).contains b) && (((ρ ++ ν).map (·.1)).all fun b => kout.contains b) && fg kout &&
 (ρ.all fun x => Nat.ble 1000000 x.1 && (Nat.blt x.1 2000000 || Nat.blt x.2 1000000 || Nat.ble 2000000 x.2)) && (ν.all fun x => (Nat.blt x.2 1000000 || Nat.ble 2000000 x.2) && (lk heap x.2).isNone)
def fx (ρ : List (Nat × Nat)) : List Nat := (ρ.filter fun x => Nat.ble 2000000 x.1).map (·.2)
def p9 (h : Hp) : List Nat → Hp
 | [] => h
 | bs => h.map fun x => (x.1, x.2.1 || bs.contains x.1, x.2.2)
def re (ρ : List (Nat × Nat)) (h : Hp) : Hp := h.map fun x => (rn ρ x.1, x.2.1, A.lj ρ x.2.2)
def jl (cs : List Nat) (h : Hp) : Hp := h.filter fun x => !cs.contains x.1
inductive ni (P : Program) (G : bj) (n : Nat) (env : List (Nat × A)) (heap : Hp) (f : FuncId) (xs : List A) (K : A → St → Prop) : Prop where
 | mk {args : List A} {hin : Hp} {r : A} {hout : Hp} (hs : qp P G f args hin r hout) (ρ ν : List (Nat × Nat)) (rR : A) (houtR : Hp) (bs : List Nat)
  (ha : j8 (lk heap) ρ args xs bs) (hi : nj (p9 heap bs) ρ hin) (hc : n9 ρ ν heap (hin.map (·.1)) (hout.map (·.1)) = true)
  (hr : r.ren (ρ ++ ν) = rR) (ho : re (ρ ++ ν) hout = houtR)
  (k : K rR ⟨n, klE (fx ρ) env, houtR ++ jl ((ρ ++ ν).map (·.2)) (klH (fx ρ) (p9 heap bs))⟩)
theorem jn {l : List (Nat × Nat)} (h : fg (l.map (·.1)) = true) {b c : Nat} (hm : (b, c) ∈ l) : lk l b = some c := by
 induction l with
 | nil => cases hm
 | cons x l ih =>
  obtain ⟨k, y⟩ := x
  simp only [List.map_cons, fg, Bool.and_eq_true, Bool.not_eq_true'] at h
  simp only [lk]
  rcases List.mem_cons.1 hm with e | hm
  ·cases e; rw [if_pos rfl]
  ·rw [if_neg, ih h.2 hm]
   rintro rfl
   have : (l.map (·.1)).contains k = true := by simpa using ⟨c, hm⟩
   rw [this] at h; cases h.1
theorem yd {l : List (Nat × Nat)} (h : fg (l.map (·.2)) = true) {b b' c : Nat} (hm : (b, c) ∈ l) (hm' : (b', c) ∈ l) : b = b' := by
 induction l with
 | nil => cases hm
 | cons x l ih =>
  obtain ⟨k, y⟩ := x
  simp only [List.map_cons, fg, Bool.and_eq_true, Bool.not_eq_true'] at h
  have hno : ∀ b, (b, y) ∈ l → False := fun b hb => by
   have : (l.map (·.2)).contains y = true := by simpa using ⟨b, hb⟩
   rw [this] at h; cases h.1
  rcases List.mem_cons.1 hm with e | h3 <;> rcases List.mem_cons.1 hm' with e' | h4
  ·cases e; cases e'; rfl
  ·cases e; exact (hno _ h4).elim
  ·cases e'; exact (hno _ h3).elim
  ·exact ih h.2 h3 h4
theorem gr {α : Type} : ∀ {l : List (Nat × α)} {b : Nat} {c : α}, lk l b = some c → (b, c) ∈ l
 | [], b, c, h => by simp [lk] at h
 | (k, y) :: l, b, c, h => by
  simp only [lk] at h
  split at h
  ·rename_i e; subst e; cases h; simp
  ·exact List.mem_cons_of_mem _ (gr h)
theorem gb {α : Type} : ∀ {l : List (Nat × α)} {b : Nat}, b ∈ l.map (·.1) → ∃ x, lk l b = some x
 | [], b, h => by simp at h
 | (k, y) :: l, b, h => by
  simp only [lk]
  split
  ·exact ⟨y, rfl⟩
  ·rename_i hne
   simp only [List.map_cons, List.mem_cons] at h
   exact gb (h.resolve_left fun e => hne e.symm)
theorem adu {l : List (Nat × Nat)} (h : fg (l.map (·.1)) = true) {b c : Nat} (hm : (b, c) ∈ l) : rn l b = c := by unfold rn; rw [jn h hm]; rfl
theorem sb {l : List (Nat × Nat)} {b : Nat} (hm : b ∈ l.map (·.1)) : (b, rn l b) ∈ l := by
 obtain ⟨c, hc⟩ := gb hm
 unfold rn; rw [hc]; exact gr hc
theorem ug {ρ : List (Nat × Nat)} (h1 : fg (ρ.map (·.1)) = true) (h2 : fg (ρ.map (·.2)) = true) : ∀ {h : Hp}, (∀ x ∈ h, x.1 ∈ ρ.map (·.1)) → ∀ {b c : Nat}, (b, c) ∈ ρ → lk (re ρ h) c = (lk h b).map fun x => (x.1, A.lj ρ x.2)
 | [], _, b, c, hm => rfl
 | (k, f, l) :: h, hk, b, c, hm => by
  have ih := ug h1 h2 (h := h) (fun x hx => hk x (List.mem_cons_of_mem _ hx)) hm
  simp only [re, List.map_cons, lk] at ih ⊢
  by_cases e : k = b
  ·subst e
   rw [if_pos rfl, if_pos (adu h1 hm)]; rfl
  ·rw [if_neg e, if_neg]
   ·exact ih
   ·intro e2
    have hmk := sb (hk (k, f, l) (by simp))
    rw [e2] at hmk
    exact e (yd h2 hmk hm)
theorem o8 {ρ : List (Nat × Nat)} : ∀ {h : Hp}, (∀ x ∈ h, x.1 ∈ ρ.map (·.1)) → ∀ {c : Nat}, c ∉ ρ.map (·.2) → lk (re ρ h) c = none
 | [], _, c, _ => rfl
 | (k, f, l) :: h, hk, c, hm => by
  have ih := o8 (h := h) (fun x hx => hk x (List.mem_cons_of_mem _ hx)) hm
  simp only [re, List.map_cons, lk] at ih ⊢
  rw [if_neg]
  ·exact ih
  ·intro e
   have hmk := sb (hk (k, f, l) (by simp))
   rw [e] at hmk
   exact hm (List.mem_map.2 ⟨_, hmk, rfl⟩)
theorem zp {α : Type} : ∀ (a b : List (Nat × α)) (t : Nat), lk (a ++ b) t = (lk a t).or (lk b t)
 | [], b, t => rfl
 | (k, y) :: a, b, t => by
  simp only [List.cons_append, lk]
  split
  ·rfl
  ·exact zp a b t
theorem nu (cs : List Nat) : ∀ (h : Hp) (t : Nat), lk (jl cs h) t = if cs.contains t then none else lk h t
 | [], t => by simp [jl, lk]
 | (k, y) :: h, t => by
  have ih := nu cs h t
  simp only [jl, List.filter_cons, lk] at ih ⊢
  cases hk : cs.contains k with
  | true =>
   simp only [Bool.not_true, Bool.false_eq_true, if_false]
   rw [ih]
   by_cases e : k = t
   ·subst e; rw [if_pos hk, if_pos hk]
   ·rw [if_neg e]
  | false =>
   simp only [Bool.not_false, if_true, lk]
   by_cases e : k = t
   ·subst e; rw [if_pos rfl, if_pos rfl, if_neg (by rw [hk]; simp)]
   ·rw [if_neg e, if_neg e]; exact ih
theorem aeg (n : Nat) (env : List (Nat × A)) (heap : Hp) (bs : List Nat) : St.freeze ⟨n, env, heap⟩ bs = ⟨n, env, p9 heap bs⟩ := by cases bs <;> rfl
section
variable {P : Program} {G : bj} {T : Tab} {w0 : World} {M : Own} {S0 : Imm} {σ : St} {a : Act} {w w' : World} {β : Own} {S : Imm}
theorem nk (h : Rel G w0 M S0 σ a w β S) {ρ : List (Nat × Nat)} {βc : Own} {ks : List Nat} (hβ : ∀ b, ks.contains b = true → β (rn ρ b) = βc b) : ∀ {cs as : List A} {bs : List Nat} {vs : List Value}, j8 σ.hp ρ cs as bs → A.bc ks cs = true → ARs β S w as vs →
  (∀ b ∈ bs, ∃ (fr : Bool) (l : List D), σ.hp b = some (fr, l.map A.d)) ∧ ∀ bs', (∀ b ∈ bs, b ∈ bs') → ARs βc (je β σ bs' S) w cs vs
 | _, _, _, vs, .nil, _, hx => by
  simp only [ARs] at hx
  subst hx
  exact ⟨by simp, fun _ _ => rfl⟩
 | _, _, _, vs, .data h1 ht, hr, hx => by
  simp only [ARs] at hx
  obtain ⟨u, us, rfl, hx1, hx2⟩ := hx
  simp only [A.bc, Bool.and_eq_true] at hr
  obtain ⟨d, bs1, ⟨rfl, rfl⟩, hb1, hd⟩ := jk h h1 hx1
  obtain ⟨hb2, hds⟩ := nk h hβ ht hr.2 hx2
  refine ⟨fun b hb => ?_, fun bs' hbs => ⟨u, us, rfl, by simp only [AR]; exact hd bs' fun b hb => hbs b (by simp [hb]), hds bs' fun b hb => hbs b (by simp [hb])⟩⟩
  rcases List.mem_append.1 hb with hb | hb
  ·exact hb1 b hb
  ·exact hb2 b hb
 | _, _, _, vs, .own h1 ht, hr, hx => by
  simp only [ARs] at hx
  obtain ⟨u, us, rfl, hx1, hx2⟩ := hx
  simp only [A.bc, Bool.and_eq_true] at hr
  subst h1
  obtain ⟨hb2, hds⟩ := nk h hβ ht hr.2 hx2
  refine ⟨hb2, fun bs' hbs => ⟨u, us, rfl, ?_, hds bs' hbs⟩⟩
  exact AR.mono (fun _ _ h => h) (r5 bs') (fun _ _ _ => rfl) (fun k C Tc fr hk => ⟨C, hk, rfl⟩) ((uj hβ hr.1).2 hx1)
theorem Rel.only (h : Rel G w0 M S0 σ a w β S) : Rel G w0 M S0 (St.mem σ.heap) aca w β S :=
 { defers := rfl, size := rfl, env := fun t x hx => by simp [St.mem, lk] at hx, glob := h.glob, keys := h.keys, rd := h.rd, live := h.live, froz := h.froz, fd := h.fd, nilb := h.nilb, inj := h.inj, imm := h.imm, old := h.old, ext := h.ext, stay := h.stay, small := Nat.zero_le _, src := h.src }
theorem Rel.hand (h : Rel G w0 M S0 σ a w β S) {ρ : List (Nat × Nat)} {hin : Hp} {βc : Own} (hβ : βc = fun b => match lk ρ b with | some c => β c | none => none)
  (h1 : fg (ρ.map (·.1)) = true) (h2 : fg (ρ.map (·.2)) = true) (hk1 : ∀ b ∈ hin.map (·.1), b ∈ ρ.map (·.1)) (hk2 : ∀ b ∈ ρ.map (·.1), b ∈ hin.map (·.1))
  (hi : nj σ.heap ρ hin) (href : ∀ x ∈ hin, A.bc (hin.map (·.1)) x.2.2 = true) : Rel G w βc S (St.mem hin) aca w βc S := by
 have hβρ : ∀ b, (hin.map (·.1)).contains b = true → β (rn ρ b) = βc b := by
  intro b hb
  have hm := sb (hk1 b (by simpa using hb))
  rw [hβ]
  simp only [jn h1 hm]
 have hlk : ∀ b x, lk hin b = some x → b ∈ hin.map (·.1) := fun b x hx => List.mem_map.2 ⟨_, gr hx, rfl⟩
 have hof : ∀ b k, βc b = some k → (b, rn ρ b) ∈ ρ ∧ β (rn ρ b) = some k := by
  intro b k hb
  rw [hβ] at hb
  simp only at hb
  split at hb
  ·rename_i c hc
   have hm := gr hc
   rw [adu h1 hm]
   exact ⟨hm, hb⟩
  ·cases hb
 refine { defers := rfl, size := rfl, env := fun t x hx => by simp [St.mem, lk] at hx, glob := h.glob, keys := ?_, rd := ?_, live := ?_, froz := ?_, fd := ?_, nilb := ?_, inj := ?_, imm := h.imm, old := fun _ _ h _ => .inl h, ext := ⟨rfl, rfl, rfl, Nat.le_refl _, fun _ _ _ => rfl, fun k C Tc fr hk => ⟨C, hk, rfl⟩⟩, stay := fun _ _ _ _ => rfl, small := Nat.zero_le _, src := fun b _ hb => .inr ⟨b, hb⟩ }
 ·intro b hb
  obtain ⟨k, hk⟩ := Option.ne_none_iff_exists'.1 hb
  obtain ⟨x, hx⟩ := gb (hk2 b (List.mem_map.2 ⟨_, (hof b k hk).1, rfl⟩))
  show lk hin b ≠ none
  rw [hx]; simp
 ·intro b k fr l hb hl
  obtain ⟨hl1, _⟩ := hi.get hl
  obtain ⟨C, Tc, hC, hlen, hcell⟩ := h.rd _ k _ _ (hof b _ hb).2 hl1
  rw [o9, List.length_map] at hlen
  refine ⟨C, Tc, hC, hlen, fun j x hx => ?_⟩
  obtain ⟨u, hu, hR⟩ := hcell j (x.ren ρ) (by rw [o9, List.getElem?_map, hx]; rfl)
  exact ⟨u, hu, (uj hβρ (gz (href _ (gr hl)) hx)).2 hR⟩
 ·intro b k l hb hl
  obtain ⟨hl1, _⟩ := hi.get hl
  exact ⟨(h.live _ k _ (hof b _ hb).2 hl1).1, .inr ⟨b, hb⟩⟩
 ·intro b k l hb hl
  cases (hi.get hl).2
 ·intro b l hl
  cases (hi.get hl).2
 ·intro b fr l hb hl
  obtain ⟨hl1, _⟩ := hi.get hl
  have := h.nilb _ _ _ (hof b _ hb).2 hl1
  rw [o9, List.map_eq_nil_iff] at this
  exact this
 ·intro b b' k hb hb'
  have e := h.inj _ _ _ (hof b _ hb).2 (hof b' _ hb').2
  have hm := (hof b _ hb).1
  rw [e] at hm
  exact yd h2 hm (hof b' _ hb').1
theorem Rel.back (h : Rel G w0 M S0 σ a w β S) {ρ ν : List (Nat × Nat)} {hin hout : Hp} {βc βo : Own} {S' : Imm} (hβ : βc = fun b => match lk ρ b with | some c => β c | none => none)
  (hok : n9 ρ ν σ.heap (hin.map (·.1)) (hout.map (·.1)) = true) (hi : nj σ.heap ρ hin) (href : ∀ x ∈ hout, A.bc (hout.map (·.1)) x.2.2 = true)
  (hc : Rel G w βc S (St.mem hout) aca w' βo S') :
  ∃ β2 S2, Rel G w0 M S0 ⟨σ.n, klE (fx ρ) σ.env, re (ρ ++ ν) hout ++ jl ((ρ ++ ν).map (·.2)) (klH (fx ρ) σ.heap)⟩ a w' β2 S2 ∧ (∀ x v, x.dx (hout.map (·.1)) = true → AR βo S' w' x v → AR β2 S2 w' (x.ren (ρ ++ ν)) v) := by
 simp only [n9, Bool.and_eq_true, List.all_eq_true] at hok
 obtain ⟨⟨⟨⟨⟨⟨⟨⟨n1, n2⟩, k1⟩, k2⟩, k3⟩, k4⟩, n3⟩, g1⟩, g2⟩ := hok
 have k1 : ∀ b ∈ hin.map (·.1), b ∈ ρ.map (·.1) := fun b hb => by simpa using k1 b hb
 have k2 : ∀ b ∈ ρ.map (·.1), b ∈ hin.map (·.1) := fun b hb => by simpa using k2 b hb
 have k3 : ∀ b ∈ hout.map (·.1), b ∈ (ρ ++ ν).map (·.1) := fun b hb => by simpa using k3 b hb
 have k4 : ∀ b ∈ (ρ ++ ν).map (·.1), b ∈ hout.map (·.1) := fun b hb => by simpa using k4 b hb
 have k3' : ∀ x ∈ hout, x.1 ∈ (ρ ++ ν).map (·.1) := fun x hx => k3 _ (List.mem_map.2 ⟨x, hx, rfl⟩)
 -- the keys of ρ
 have m1 : ∀ b c, (b, c) ∈ ρ → (b, c) ∈ ρ ++ ν := fun b c h => List.mem_append_left _ h
 have lkρ : ∀ b c, (b, c) ∈ ρ → lk ρ b = some c := by
  intro b c hm
  obtain ⟨c', hc'⟩ := gb (l := ρ) (List.mem_map.2 ⟨_, hm, rfl⟩)
  have := gr hc'
  have e1 := jn n1 (m1 _ _ hm)
  have e2 := jn n1 (m1 _ _ this)
  rw [e1] at e2; cases e2; exact hc'
 have hβc : ∀ b c, (b, c) ∈ ρ → βc b = β c := by
  intro b c hm
  rw [hβ]
  simp only [lkρ b c hm]
 have hβc2 : ∀ b k, βc b = some k → ∃ c, (b, c) ∈ ρ ∧ β c = some k := by
  intro b k hb
  rw [hβ] at hb
  simp only at hb
  split at hb
  ·rename_i c hc
   exact ⟨c, gr hc, hb⟩
  ·cases hb
 have hat : ∀ k, βc.at k → ∃ b c, (b, c) ∈ ρ ∧ β c = some (some k) := fun k ⟨b, hb⟩ => let ⟨c, h1, h2⟩ := hβc2 b _ hb; ⟨b, c, h1, h2⟩
 have hinlk : ∀ b c, (b, c) ∈ ρ → ∃ l, lk hin b = some (false, l) ∧ lk σ.heap c = some (false, A.lj ρ l) := by
  intro b c hm
  obtain ⟨x, hx⟩ := gb (k2 b (List.mem_map.2 ⟨_, hm, rfl⟩))
  obtain ⟨fr, l⟩ := x
  obtain ⟨h1, rfl⟩ := hi.get hx
  refine ⟨l, hx, ?_⟩
  have : rn ρ b = c := by unfold rn; rw [lkρ b c hm]; rfl
  rwa [this] at h1
 have hlive : ∀ b c k, (b, c) ∈ ρ → β c = some (some k) → (∀ o, ¬ S k o) ∧ (w0.heap.size ≤ k ∨ M.at k) := by
  intro b c k hm hk
  obtain ⟨l, _, h2⟩ := hinlk b c hm
  exact h.live c k _ hk h2
 have hlt : ∀ c k, β c = some (some k) → k < w.heap.size := by
  intro c k hk
  cases hl : lk σ.heap c with
  | none => exact absurd hl (h.keys c (by rw [hk]; simp))
  | some x =>
   obtain ⟨fr, l⟩ := x
   obtain ⟨C, Tc, hC, _⟩ := h.rd c k fr l hk hl
   exact lt_of_heap hC
 -- the new map
 let inv : List (Nat × Nat) := (ρ ++ ν).map fun x => (x.2, x.1)
 have linv : ∀ b c, (b, c) ∈ ρ ++ ν → lk inv c = some b := by
  intro b c hm
  have : (c, b) ∈ inv := List.mem_map.2 ⟨(b, c), hm, rfl⟩
  refine jn ?_ this
  have e : inv.map (·.1) = (ρ ++ ν).map (·.2) := by simp only [inv, List.map_map]; rfl
  rw [e]; exact n2
 have linv2 : ∀ b c, lk inv c = some b → (b, c) ∈ ρ ++ ν := by
  intro b c hl
  obtain ⟨x, hx, e⟩ := List.mem_map.1 (gr hl)
  cases e; exact hx
 have linv3 : ∀ c, c ∉ (ρ ++ ν).map (·.2) → lk inv c = none := by
  intro c hc
  cases hl : lk inv c with
  | none => rfl
  | some b => exact (hc (List.mem_map.2 ⟨_, linv2 b c hl, rfl⟩)).elim
 let β2 : Own := fun c => match lk inv c with | some b => βo b | none => β c
 have β2in : ∀ b c, (b, c) ∈ ρ ++ ν → β2 c = βo b := fun b c hm => by simp only [β2, linv b c hm]
 have β2out : ∀ c, c ∉ (ρ ++ ν).map (·.2) → β2 c = β c := fun c hc => by simp only [β2, linv3 c hc]
 have β2ρ : ∀ b, (hout.map (·.1)).contains b = true → β2 (rn (ρ ++ ν) b) = βo b := by
  intro b hb
  exact β2in b _ (sb (k3 b (by simpa using hb)))
 let S2 : Imm := fun k o => S k o ∨ S' k o
 have hS : S.le S2 := fun _ _ h => .inl h
 have hS' : S'.le S2 := fun _ _ h => .inr h
 have hwsz : w.heap.size ≤ w'.heap.size := hc.ext.size
 -- what is in S does not am7
 have hkeep : lr S w w' := by
  intro k o hk
  have hk1 := h.imm k o hk
  refine cell_of_heap (hc.ext.block k hk1 fun hM => ?_)
  obtain ⟨b, c, hm, hck⟩ := hat k hM
  exact (hlive b c k hm hck).1 o hk
 have hsh : kd w w' := hc.ext.ln
 have hmvc : ∀ c, (fx ρ).contains c = true → ∃ b, 2000000 ≤ b ∧ (b, c) ∈ ρ := by
  intro c hc
  simp only [fx, List.contains_iff_mem, List.mem_map, List.mem_filter] at hc
  obtain ⟨x, ⟨h1, h2⟩, rfl⟩ := hc
  exact ⟨x.1, Nat.le_of_ble_eq_true h2, h1⟩
 -- keys that stay
 have hstay : ∀ b c, (b, c) ∈ ρ → b < 2000000 → βo b = β c := by
  intro b c hm hb
  have h1 := Nat.le_of_ble_eq_true (by have := g1 _ hm; simp only [Bool.and_eq_true] at this; exact this.1)
  obtain ⟨x, hx⟩ := gb (k4 b (List.mem_map.2 ⟨_, m1 _ _ hm, rfl⟩))
  rw [hc.stay b h1 hb (by show lk hout b ≠ none; rw [hx]; simp), hβc b c hm]
 have hβmv : ∀ c, (fx ρ).contains c = false → lk σ.heap c ≠ none → β2 c = β c := by
  intro c hmv hcn
  by_cases hin' : c ∈ (ρ ++ ν).map (·.2)
  ·obtain ⟨⟨b, c'⟩, hm, rfl⟩ := List.mem_map.1 hin'
   rw [β2in b c' hm]
   rcases List.mem_append.1 hm with hm | hm
   ·refine hstay b c' hm ?_
    by_cases hb : b < 2000000
    ·exact hb
    ·have : (fx ρ).contains c' = true := by
      simp only [fx, List.contains_iff_mem, List.mem_map, List.mem_filter]
      exact ⟨(b, c'), ⟨hm, Nat.ble_eq_true_of_le (by omega)⟩, rfl⟩
     rw [this] at hmv; cases hmv
   ·have := g2 _ hm
    simp only [Bool.and_eq_true] at this
    exact absurd (by simpa using this.2) hcn
  ·exact β2out c hin'
 -- what was known of a value stays known
 have hARold : ∀ x v, AR β S w x v → AR β2 S2 w' (x.kl (fx ρ)) v := by
  intro x v hx
  -- first with a map that is β2 where the key is known
  let β1 : Own := fun c => if lk σ.heap c = none then none else β c
  have e1 : β = β1 := by
   funext c
   show β c = if lk σ.heap c = none then none else β c
   split
   ·rename_i hn
    cases hb : β c with
    | none => rfl
    | some k => exact absurd hn (h.keys c (by rw [hb]; simp))
   ·rfl
  let β3 : Own := fun c => if lk σ.heap c = none then none else β2 c
  have h1 : AR β3 S w (x.kl (fx ρ)) v := by
   refine agl (β := β) (β' := β3) (fun c hmv => ?_) hx
   show (if lk σ.heap c = none then none else β2 c) = β c
   split
   ·rename_i hn
    cases hb : β c with
    | none => rfl
    | some k => exact absurd hn (h.keys c (by rw [hb]; simp))
   ·rename_i hn
    exact hβmv c hmv hn
  refine AR.mono (fun c k hck => ?_) hS hkeep hsh h1
  have : (if lk σ.heap c = none then none else β2 c) = some k := hck
  split at this
  ·cases this
  ·exact this
 have hARnew : ∀ x v, x.dx (hout.map (·.1)) = true → AR βo S' w' x v → AR β2 S2 w' (x.ren (ρ ++ ν)) v := by
  intro x v hr hx
  refine AR.mono (fun _ _ h => h) hS' (fun _ _ _ => rfl) (fun k C Tc fr hk => ⟨C, hk, rfl⟩) ((uj β2ρ hr).1 hx)
 -- the heap, looked into
 have hlook : ∀ c x, lk (re (ρ ++ ν) hout ++ jl ((ρ ++ ν).map (·.2)) (klH (fx ρ) σ.heap)) c = some x →
   (∃ b fr l, (b, c) ∈ ρ ++ ν ∧ lk hout b = some (fr, l) ∧ x = (fr, A.lj (ρ ++ ν) l)) ∨ (c ∉ (ρ ++ ν).map (·.2) ∧ ∃ fr l, lk σ.heap c = some (fr, l) ∧ x = (fr, A.kls (fx ρ) l)) := by
  intro c x hx
  rw [zp] at hx
  by_cases hin' : c ∈ (ρ ++ ν).map (·.2)
  ·obtain ⟨⟨b, c'⟩, hm, rfl⟩ := List.mem_map.1 hin'
   rw [ug n1 n2 k3' hm, nu, if_pos (by simpa using hin')] at hx
   cases hl : lk hout b with
   | none => rw [hl] at hx; cases hx
   | some y =>
    obtain ⟨fr, l⟩ := y
    rw [hl] at hx
    cases hx
    exact .inl ⟨b, fr, l, hm, hl, rfl⟩
  ·rw [o8 k3' hin', nu, if_neg (by simpa using hin'), ac2] at hx
   cases hl : lk σ.heap c with
   | none => rw [hl] at hx; cases hx
   | some y =>
    obtain ⟨fr, l⟩ := y
    rw [hl] at hx
    cases hx
    exact .inr ⟨hin', fr, l, rfl, rfl⟩
 have hlook2 : ∀ c, lk (re (ρ ++ ν) hout ++ jl ((ρ ++ ν).map (·.2)) (klH (fx ρ) σ.heap)) c = none → (∀ b, (b, c) ∉ ρ ++ ν) ∧ lk σ.heap c = none := by
  intro c hx
  rw [zp] at hx
  by_cases hin' : c ∈ (ρ ++ ν).map (·.2)
  ·obtain ⟨⟨b, c'⟩, hm, rfl⟩ := List.mem_map.1 hin'
   obtain ⟨y, hy⟩ := gb (k4 b (List.mem_map.2 ⟨_, hm, rfl⟩))
   rw [ug n1 n2 k3' hm, hy] at hx
   cases hx
  ·rw [o8 k3' hin', nu, if_neg (by simpa using hin'), ac2] at hx
   refine ⟨fun b hb => hin' (List.mem_map.2 ⟨_, hb, rfl⟩), ?_⟩
   cases hl : lk σ.heap c with
   | none => rfl
   | some y => rw [hl] at hx; cases hx
 have hnew : ∀ b c k, (b, c) ∈ ρ ++ ν → βo b = some (some k) → w.heap.size ≤ k ∨ ∃ b' c', (b', c') ∈ ρ ∧ β c' = some (some k) := by
  intro b c k hm hk
  rcases hc.src b k hk with h1 | h1
  ·exact .inl h1
  ·exact .inr (hat k h1)
 have hfar : ∀ c k, c ∉ (ρ ++ ν).map (·.2) → β c = some (some k) → ¬ βc.at k := by
  intro c k hn hk hM
  obtain ⟨b', c', h2, h3⟩ := hat k hM
  rw [h.inj c c' k hk h3] at hn
  exact hn (List.mem_map.2 ⟨_, m1 _ _ h2, rfl⟩)
 refine ⟨β2, S2, { defers := h.defers, size := h.size, env := ?_, glob := fun g => DRL.mono hS hkeep (h.glob g), keys := ?_, rd := ?_, live := ?_, froz := ?_, fd := ?_, nilb := ?_, inj := ?_, imm := ?_, old := ?_, ext := ?_, stay := ?_, small := h.small, src := ?_ }, hARnew⟩
 ·intro t x hx
  have hx : lk (klE (fx ρ) σ.env) t = some x := hx
  rw [zk, Option.map_eq_some_iff] at hx
  obtain ⟨y, hy, rfl⟩ := hx
  exact hARold y _ (h.env t y hy)
 ·intro c hc2 e
  obtain ⟨e1, e2⟩ := hlook2 c e
  have hn : c ∉ (ρ ++ ν).map (·.2) := by
   intro hm
   obtain ⟨⟨b, c'⟩, hm2, rfl⟩ := List.mem_map.1 hm
   exact e1 b hm2
  rw [β2out c hn] at hc2
  exact h.keys c hc2 e2
 ·intro c k fr l hck hl
  rcases hlook c _ hl with ⟨b, fr', l0, hm, hl0, e⟩ | ⟨hn, fr', l0, hl0, e⟩
  ·cases e
   rw [β2in b c hm] at hck
   obtain ⟨C, Tc, hC, hlen, hcell⟩ := hc.rd b k _ _ hck hl0
   refine ⟨C, Tc, hC, by rw [o9, List.length_map]; exact hlen, fun j x hx => ?_⟩
   rw [o9, List.getElem?_map, Option.map_eq_some_iff] at hx
   obtain ⟨y, hy, rfl⟩ := hx
   obtain ⟨u, hu, hR⟩ := hcell j y hy
   exact ⟨u, hu, hARnew y u (gz (href _ (gr hl0)) hy) hR⟩
  ·cases e
   rw [β2out c hn] at hck
   obtain ⟨C, Tc, hC, hlen, hcell⟩ := h.rd c k _ _ hck hl0
   refine ⟨C, Tc, (hc.ext.block k (lt_of_heap hC) (hfar c k hn hck)).trans hC, by rw [ac3, List.length_map]; exact hlen, fun j x hx => ?_⟩
   rw [ac3, List.getElem?_map, Option.map_eq_some_iff] at hx
   obtain ⟨y, hy, rfl⟩ := hx
   obtain ⟨u, hu, hR⟩ := hcell j y hy
   exact ⟨u, hu, hARold y u hR⟩
 ·intro c k l hck hl
  rcases hlook c _ hl with ⟨b, fr', l0, hm, hl0, e⟩ | ⟨hn, fr', l0, hl0, e⟩
  ·cases e
   rw [β2in b c hm] at hck
   refine ⟨fun o ho => ?_, ?_⟩
   ·rcases ho with ho | ho
    ·rcases hnew b c k hm hck with h1 | ⟨b', c', h2, h3⟩
     ·have := h.imm k o ho; omega
     ·exact (hlive b' c' k h2 h3).1 o ho
    ·exact (hc.live b k _ hck hl0).1 o ho
   ·rcases hnew b c k hm hck with h1 | ⟨b', c', h2, h3⟩
    ·exact .inl (Nat.le_trans h.ext.size h1)
    ·exact (hlive b' c' k h2 h3).2
  ·cases e
   rw [β2out c hn] at hck
   obtain ⟨h1, h2⟩ := h.live c k _ hck hl0
   refine ⟨fun o ho => ?_, h2⟩
   rcases ho with ho | ho
   ·exact h1 o ho
   ·rcases hc.old k o ho (hlt c k hck) with h3 | h3
    ·exact h1 o h3
    ·exact hfar c k hn hck h3
 ·intro c k l hck hl
  rcases hlook c _ hl with ⟨b, fr', l0, hm, hl0, e⟩ | ⟨hn, fr', l0, hl0, e⟩
  ·cases e
   rw [β2in b c hm] at hck
   obtain ⟨ds, rfl, h2⟩ := hc.froz b k _ hck hl0
   exact ⟨ds, A.l5 _ _, DRL.mono hS' (fun _ _ _ => rfl) h2⟩
  ·cases e
   rw [β2out c hn] at hck
   obtain ⟨ds, rfl, h2⟩ := h.froz c k _ hck hl0
   exact ⟨ds, zl _ _, DRL.mono hS hkeep h2⟩
 ·intro c l hl
  rcases hlook c _ hl with ⟨b, fr', l0, hm, hl0, e⟩ | ⟨hn, fr', l0, hl0, e⟩
  ·cases e
   obtain ⟨ds, rfl⟩ := hc.fd b _ hl0
   exact ⟨ds, A.l5 _ _⟩
  ·cases e
   obtain ⟨ds, rfl⟩ := h.fd c _ hl0
   exact ⟨ds, zl _ _⟩
 ·intro c fr l hck hl
  rcases hlook c _ hl with ⟨b, fr', l0, hm, hl0, e⟩ | ⟨hn, fr', l0, hl0, e⟩
  ·cases e
   rw [β2in b c hm] at hck
   rw [hc.nilb b _ _ hck hl0]; rfl
  ·cases e
   rw [β2out c hn] at hck
   rw [h.nilb c _ _ hck hl0]; rfl
 ·intro c c' k hck hck'
  have key : ∀ c c', c ∈ (ρ ++ ν).map (·.2) → c' ∉ (ρ ++ ν).map (·.2) → β2 c = some (some k) → β2 c' = some (some k) → False := by
   intro c c' hi' hn hck hck'
   obtain ⟨⟨b, c2⟩, hm, rfl⟩ := List.mem_map.1 hi'
   rw [β2in b c2 hm] at hck
   rw [β2out c' hn] at hck'
   rcases hnew b c2 k hm hck with h1 | ⟨b', c3, h2, h3⟩
   ·have := hlt c' k hck'; omega
   ·rw [h.inj c' c3 k hck' h3] at hn
    exact hn (List.mem_map.2 ⟨_, m1 _ _ h2, rfl⟩)
  by_cases h1 : c ∈ (ρ ++ ν).map (·.2) <;> by_cases h2 : c' ∈ (ρ ++ ν).map (·.2)
  ·obtain ⟨⟨b, c2⟩, hm, rfl⟩ := List.mem_map.1 h1
   obtain ⟨⟨b', c3⟩, hm', rfl⟩ := List.mem_map.1 h2
   rw [β2in b c2 hm] at hck
   rw [β2in b' c3 hm'] at hck'
   obtain rfl := hc.inj b b' k hck hck'
   have e1 := jn n1 hm
   have e2 := jn n1 hm'
   rw [e1] at e2; cases e2; rfl
  ·exact (key c c' h1 h2 hck hck').elim
  ·exact (key c' c h2 h1 hck' hck).elim
  ·rw [β2out c h1] at hck
   rw [β2out c' h2] at hck'
   exact h.inj c c' k hck hck'
 ·intro k o ho
  rcases ho with ho | ho
  ·have := h.imm k o ho; omega
  ·exact hc.imm k o ho
 ·intro k o ho hk
  rcases ho with ho | ho
  ·exact h.old k o ho hk
  ·rcases hc.old k o ho (Nat.lt_of_lt_of_le hk h.ext.size) with h1 | h1
   ·exact h.old k o h1 hk
   ·obtain ⟨b', c', h2, h3⟩ := hat k h1
    rcases (hlive b' c' k h2 h3).2 with h4 | h4
    ·omega
    ·exact .inr h4
 ·refine ⟨hc.ext.os.trans h.ext.os, hc.ext.tape.trans h.ext.tape, hc.ext.output.trans h.ext.output, Nat.le_trans h.ext.size hc.ext.size, fun k hk hM => ?_, fun k C Tc fr hk => ?_⟩
  ·refine (hc.ext.block k (Nat.lt_of_lt_of_le hk h.ext.size) fun h1 => ?_).trans (h.ext.block k hk hM)
   obtain ⟨b', c', h2, h3⟩ := hat k h1
   rcases (hlive b' c' k h2 h3).2 with h4 | h4
   ·omega
   ·exact hM h4
  ·obtain ⟨C1, h1, h2⟩ := h.ext.ln k C Tc fr hk
   obtain ⟨C2, h3, h4⟩ := hc.ext.ln k C1 Tc fr h1
   exact ⟨C2, h3, by omega⟩
 ·intro c h1 h2 hcn
  obtain ⟨x, hx⟩ := Option.ne_none_iff_exists'.1 hcn
  rcases hlook c _ hx with ⟨b, fr', l0, hm, hl0, e⟩ | ⟨hn, fr', l0, hl0, e⟩
  ·rcases List.mem_append.1 hm with hm' | hm'
   ·have hg := g1 _ hm'
    simp only [Bool.and_eq_true, Bool.or_eq_true, Nat.ble_eq, Nat.blt_eq] at hg
    rw [β2in b c hm, hstay b c hm' (by omega)]
    obtain ⟨l, _, h3⟩ := hinlk b c hm'
    exact h.stay c h1 h2 (by rw [h3]; simp)
   ·have hg := g2 _ hm'
    simp only [Bool.and_eq_true, Bool.or_eq_true, Nat.ble_eq, Nat.blt_eq] at hg
    omega
  ·rw [β2out c hn]
   exact h.stay c h1 h2 (by rw [hl0]; simp)
 ·intro c k hck
  by_cases h1 : c ∈ (ρ ++ ν).map (·.2)
  ·obtain ⟨⟨b, c2⟩, hm, rfl⟩ := List.mem_map.1 h1
   rw [β2in b c2 hm] at hck
   rcases hnew b c2 k hm hck with h1 | ⟨b', c', h2, h3⟩
   ·exact .inl (Nat.le_trans h.ext.size h1)
   ·exact (hlive b' c' k h2 h3).2
  ·rw [β2out c h1] at hck
   exact h.src c k hck
theorem ajh (bs : List Nat) (h : Hp) (t : Nat) : lk (p9 h bs) t = (lk h t).map fun x => (x.1 || bs.contains t, x.2) := by
 have := cx (St.mem h) bs t
 cases bs <;> exact this
theorem qt (h : Rel G w0 M S0 σ a w β S) {o : Oper} {f : FuncId} {xs : List A} {vals : List Value} (hx : ARs β S w xs vals) (hexec : fb P f = true → (execOp a.eval o).run P w = .ok (.enter f vals.toArray) w) {K : A → St → Prop}
  (hk : ni P G σ.n σ.env σ.heap f xs K) (Q : Exit → Act → World → Prop) (next : Act → World → Prop)
  (hn : ∀ r σ' v w' β' S', K r σ' → Rel G w0 M S0 σ' a w' β' S' → AR β' S' w' r v → σ'.n = σ.n → next (a.put o.dst v) w') : o.wp P a w next Q := by
 obtain ⟨hs, ρ, ν, rR, houtR, bs, ha, hi, hc, hr, ho, hK⟩ := hk
 rename_i cargs hin r hout
 have hok := hc
 simp only [n9, Bool.and_eq_true, List.all_eq_true] at hok
 obtain ⟨⟨⟨⟨⟨⟨⟨⟨n1, n2⟩, k1⟩, k2⟩, k3⟩, k4⟩, n3⟩, g1⟩, g2⟩ := hok
 have k1 : ∀ b ∈ hin.map (·.1), b ∈ ρ.map (·.1) := fun b hb => by simpa using k1 b hb
 have k2 : ∀ b ∈ ρ.map (·.1), b ∈ hin.map (·.1) := fun b hb => by simpa using k2 b hb
 have pre : ∀ (l l2 : List Nat), fg (l ++ l2) = true → fg l = true := by
  intro l l2 hl
  induction l with
  | nil => rfl
  | cons x l ih =>
   simp only [List.cons_append, fg, Bool.and_eq_true, Bool.not_eq_true'] at hl ⊢
   refine ⟨?_, ih hl.2⟩
   cases hx : l.contains x with
   | false => rfl
   | true =>
    have : (l ++ l2).contains x = true := by simp only [List.contains_iff_mem] at hx ⊢; exact List.mem_append_left _ hx
    rw [this] at hl; cases hl.1
 have n1' := pre _ _ (by rw [← List.map_append]; exact n1)
 have n2' := pre _ _ (by rw [← List.map_append]; exact n2)
 let βc : Own := fun b => match lk ρ b with | some c => β c | none => none
 have hβρ : ∀ b, (hin.map (·.1)).contains b = true → β (rn ρ b) = βc b := by
  intro b hb
  have hm := sb (k1 b (by simpa using hb))
  simp only [βc, jn n1' hm]
 obtain ⟨hb, hds⟩ := nk h hβρ ha hs.refArgs hx
 have hfr := h.freeze hb
 have hd := hds bs (fun _ hb => hb)
 have hfe : σ.freeze bs = ⟨σ.n, σ.env, p9 σ.heap bs⟩ := aeg σ.n σ.env σ.heap bs
 rw [hfe] at hfr
 have hc' : n9 ρ ν (p9 σ.heap bs) (hin.map (·.1)) (hout.map (·.1)) = true := by
  simp only [n9, Bool.and_eq_true, List.all_eq_true] at hc ⊢
  refine ⟨hc.1, fun x hx => ⟨(hc.2 x hx).1, ?_⟩⟩
  rw [ajh]
  have := (hc.2 x hx).2
  cases hl : lk σ.heap x.2 with
  | none => rfl
  | some y => rw [hl] at this; cases this
 have hcal := Rel.hand (βc := βc) hfr rfl n1' n2' k1 k2 hi hs.refIn
 unfold Oper.wp
 rw [hexec hs.can, Oper.upon_enter]
 refine Calls.mono (by exact hs.run _ w βc _ hcal hd) ?_
 rintro e w' ⟨v, βo, S', rfl, hrel, hR⟩
 simp only
 obtain ⟨β2, S2, h1, h2⟩ := Rel.back (βc := βc) hfr rfl hc' hi hs.refOut hrel
 subst hr ho
 exact hn _ _ v w' β2 S2 hK h1 (h2 r v hs.refRes hR) rfl
theorem sv (h : Rel G w0 M S0 σ a w β S) {o : Oper} {f : FuncId} {args : Array Operand} {at_ : Array TypeId} (ho : o.op = .call ⟨.value (.func f), args, at_⟩) {K : A → St → Prop}
  (hk : ni P G σ.n σ.env σ.heap f (args.toList.map (σ.ev G)) K) (Q : Exit → Act → World → Prop) (next : Act → World → Prop)
  (hn : ∀ r σ' v w' β' S', K r σ' → Rel G w0 M S0 σ' a w' β' S' → AR β' S' w' r v → σ'.n = σ.n → next (a.put o.dst v) w') : o.wp P a w next Q := by
 obtain ⟨dst, op, type, pos, after, guard⟩ := o
 simp only at ho
 subst ho
 refine qt h (ARs.map (fun x => h.ev x) args.toList) (fun hc => ?_) hk Q next hn
 have harr : (args.toList.map a.eval).toArray = args.map a.eval := by cases args; simp
 rw [harr]
 simp only [execOp, Sem.run_bind, resolve, Act.eval, Deferred.ofValue]
 simp [invoke, jy hc]
end
end Go.Ev

namespace Go.Ev
open Go
mutual
def A.nr (V : List Nat) : A → Bool
 | .ptr b _ => !V.contains b
 | .tptr b _ _ => !V.contains b
 | .town b _ _ => !V.contains b
 | .own b _ _ _ => !V.contains b
 | .agg l => A.nrs V l
 | .tup l => A.nrs V l
 | .fn _ l => A.nrs V l
 | .d _ => true
 | .elem _ => true
def A.nrs (V : List Nat) : List A → Bool
 | [] => true
 | x :: l => x.nr V && A.nrs V l
end
mutual
theorem akx {V mv : List Nat} (hm : ∀ b, mv.contains b = true → V.contains b = true) : ∀ {x : A}, x.nr V = true → x.kl mv = x
 | .d x, _ => rfl
 | .elem x, _ => rfl
 | .ptr b o, h => by
  simp only [A.nr, Bool.not_eq_true'] at h
  have : mv.contains b = false := by
   cases e : mv.contains b with
   | false => rfl
   | true => rw [hm b e] at h; cases h
  simp only [A.kl, this]; rfl
 | .tptr b t n, h => by
  simp only [A.nr, Bool.not_eq_true'] at h
  have : mv.contains b = false := by
   cases e : mv.contains b with
   | false => rfl
   | true => rw [hm b e] at h; cases h
  simp only [A.kl, this]; rfl
 | .town b n e, h => by
  simp only [A.nr, Bool.not_eq_true'] at h
  have : mv.contains b = false := by
   cases e : mv.contains b with
   | false => rfl
   | true => rw [hm b e] at h; cases h
  simp only [A.kl, this]; rfl
 | .own b o n s, h => by
  simp only [A.nr, Bool.not_eq_true'] at h
  have : mv.contains b = false := by
   cases e : mv.contains b with
   | false => rfl
   | true => rw [hm b e] at h; cases h
  simp only [A.kl, this]; rfl
 | .agg l, h => by simp only [A.nr] at h; simp only [A.kl, vt hm h]
 | .tup l, h => by simp only [A.nr] at h; simp only [A.kl, vt hm h]
 | .fn f l, h => by simp only [A.nr] at h; simp only [A.kl, vt hm h]
theorem vt {V mv : List Nat} (hm : ∀ b, mv.contains b = true → V.contains b = true) : ∀ {l : List A}, A.nrs V l = true → A.kls mv l = l
 | [], _ => rfl
 | x :: l, h => by
  simp only [A.nrs, Bool.and_eq_true] at h
  simp only [A.kls, akx hm h.1, vt hm h.2]
end
mutual
theorem ak6 {V : List Nat} : ∀ {x : A}, (x.kl V).nr V = true
 | .d x => rfl
 | .elem x => rfl
 | .ptr b o => by
  simp only [A.kl]
  split
  ·rfl
  ·rename_i h; simp only [A.nr]; simpa using h
 | .tptr b t n => by
  simp only [A.kl]
  split
  ·rfl
  ·rename_i h; simp only [A.nr]; simpa using h
 | .town b n e => by
  simp only [A.kl]
  split
  ·rfl
  ·rename_i h; simp only [A.nr]; simpa using h
 | .own b o n s => by
  simp only [A.kl]
  split
  ·rfl
  ·rename_i h; simp only [A.nr]; simpa using h
 | .agg l => by simp only [A.kl, A.nr]; exact zr
 | .tup l => by simp only [A.kl, A.nr]; exact zr
 | .fn f l => by simp only [A.kl, A.nr]; exact zr
theorem zr {V : List Nat} : ∀ {l : List A}, A.nrs V (A.kls V l) = true
 | [] => rfl
 | x :: l => by simp only [A.kls, A.nrs, ak6, zr]; rfl
end
structure Cfg where
 cs : List Nat
 fs : List Nat
 W : List Nat
 V : List Nat
 ps : List Nat
def tp (C : Cfg) (heap : Hp) : Bool := C.V.isEmpty || heap.all fun x => C.W.contains x.1 || A.nrs C.V x.2.2
inductive akt (P : Program) (G : bj) (C : Cfg) (n : Nat) (env : List (Nat × A)) (heap : Hp) (f : FuncId) (xs : List A) (K : A → St → Prop) : Prop where
 | mk {args : List A} {hin : Hp} {r : A} {hout : Hp} (hs : qp P G f args hin r hout) (ρ ν : List (Nat × Nat)) (rR : A) (houtR : Hp)
  (ha : j8 (lk heap) ρ args xs []) (hi : nj heap ρ hin) (hc : n9 ρ ν heap (hin.map (·.1)) (hout.map (·.1)) = true)
  (hw : ((((ρ ++ ν).map (·.2)).all fun b => C.W.contains b) && (C.W.all fun b => ((ρ ++ ν).map (·.2)).contains b || (lk heap b).isNone) && ((fx ρ).all fun b => C.V.contains b) && (hout.all fun x => !x.2.1)) = true)
  (hr : r.ren (ρ ++ ν) = rR) (ho : re (ρ ++ ν) hout = houtR)
  (k : K rR ⟨n, klE (fx ρ) env, houtR ++ jl ((ρ ++ ν).map (·.2)) heap⟩)
theorem kv {hp hp' : Nat → Option (Bool × List A)} : ∀ {as : List A} {K : List D → Prop}, ej hp as (fun xs bs => K xs ∧ bs = []) → ej hp' as (fun xs bs => K xs ∧ bs = [])
 | [], K, h => h
 | a :: as, K, h => by
  simp only [ej] at h ⊢
  cases a with
  | d x => exact kv (K := fun xs => K (x.dn :: xs)) (by simpa [e8] using h)
  | elem l => exact kv (K := fun xs => K (.ptrd l :: xs)) (by simpa [e8] using h)
  | ptr b o =>
   simp only [e8] at h
   split at h
   ·obtain ⟨ds, _, h⟩ := h
    exfalso
    have : ∀ (as : List A), ej hp as (fun xs bs' => K (.ptrd (ds.drop o) :: xs) ∧ [b] ++ bs' = []) → False := by
     intro as
     have key : ∀ (as : List A) (Q : List D → List Nat → Prop), (∀ xs bs, Q xs bs → False) → ej hp as Q → False := by
      intro as
      induction as with
      | nil => intro Q hQ h; exact hQ _ _ h
      | cons c as ih =>
       intro Q hQ h
       simp only [ej] at h
       cases c with
       | d x => exact ih _ (fun xs bs => hQ _ _) h
       | elem l => exact ih _ (fun xs bs => hQ _ _) h
       | ptr b o =>
        simp only [e8] at h
        split at h
        ·obtain ⟨_, _, h⟩ := h; exact ih _ (fun xs bs => hQ _ _) h
        ·exact h
       | own b o n s =>
        simp only [e8] at h
        split at h
        ·obtain ⟨_, _, _, _, h⟩ := h; exact ih _ (fun xs bs => hQ _ _) h
        ·exact h
       | agg l => exact h
       | tup l => exact h
       | tptr b t n => exact h
       | town b n e => exact h
       | fn f l => exact h
     exact key as _ fun xs bs hq => by simp at hq
    exact this as h
   ·exact h.elim
  | own b o n s =>
   simp only [e8] at h
   split at h
   ·obtain ⟨ds, _, x, _, h⟩ := h
    exfalso
    have key : ∀ (as : List A) (Q : List D → List Nat → Prop), (∀ xs bs, Q xs bs → False) → ej hp as Q → False := by
     intro as
     induction as with
     | nil => intro Q hQ h; exact hQ _ _ h
     | cons c as ih =>
      intro Q hQ h
      simp only [ej] at h
      cases c with
      | d x => exact ih _ (fun xs bs => hQ _ _) h
      | elem l => exact ih _ (fun xs bs => hQ _ _) h
      | ptr b o =>
       simp only [e8] at h
       split at h
       ·obtain ⟨_, _, h⟩ := h; exact ih _ (fun xs bs => hQ _ _) h
       ·exact h
      | own b o n s =>
       simp only [e8] at h
       split at h
       ·obtain ⟨_, _, _, _, h⟩ := h; exact ih _ (fun xs bs => hQ _ _) h
       ·exact h
      | agg l => exact h
      | tup l => exact h
      | tptr b t n => exact h
      | town b n e => exact h
      | fn f l => exact h
    exact key as _ (fun xs bs hq => by simp at hq) h
   ·exact h.elim
  | agg l => exact h.elim
  | tup l => exact h.elim
  | tptr b t n => exact h.elim
  | town b n e => exact h.elim
  | fn f l => exact h.elim
theorem afb {hp hp' : Nat → Option (Bool × List A)} {a : A} {x : D} (h : gx hp a fun y b => y = x ∧ b = ([] : List Nat)) : gx hp' a fun y b => y = x ∧ b = ([] : List Nat) := by
 cases a with
 | tup l => exact h.elim
 | tptr b t n => exact h.elim
 | town b n e => exact h.elim
 | d y => exact h
 | elem l => exact h
 | ptr b o =>
  simp only [gx, e8] at h
  split at h
  ·obtain ⟨_, _, h⟩ := h; exact absurd h.2 (by simp)
  ·exact h.elim
 | own b o n s =>
  simp only [gx, e8] at h
  split at h
  ·obtain ⟨_, _, _, _, h⟩ := h; exact absurd h.2 (by simp)
  ·exact h.elim
 | agg l =>
  simp only [gx] at h ⊢
  exact kv (K := fun xs => D.agg xs = x) h
 | fn f l =>
  simp only [gx] at h ⊢
  exact kv (K := fun xs => D.fnd f xs = x) h
theorem afc {hp hp' : Nat → Option (Bool × List A)} {ρ : List (Nat × Nat)} {cs as : List A} {bs : List Nat} (h : j8 hp ρ cs as bs) : bs = [] → j8 hp' ρ cs as [] := by
 induction h with
 | nil => intro _; exact .nil
 | @data x a b1 bs cs as h t ih =>
  intro e
  obtain ⟨rfl, rfl⟩ := List.append_eq_nil_iff.1 e
  exact .data (b1 := []) (bs := []) (by
   exact afb h) (ih rfl)
 | own h t ih => intro e; exact .own h (ih e)
def ald (G : bj) (C : Cfg) (σ : St) (c : Call) : Bool := match c.args.toList with
 | [s, _] => match σ.ev G s with
  | .own b _ _ _ => C.W.contains b && C.V.contains b && C.W.all fun b => match lk σ.heap b with | some (fr, _) => !fr | none => true
  | _ => false
 | _ => false
def ako (P : Program) (G : bj) (T : Tab) (C : Cfg) (σ : St) (dst : Option Nat) (op : Op) (K : A → St → Prop) : Prop :=
 match σ with
 | ⟨n, env, heap⟩ => match op with
  | .call c => match c.callee with
   | .value x => match x with
    | .func f => akt P G C n env heap f (c.args.toList.map (St.ev G ⟨n, env, heap⟩)) K
    | _ => False
   | .builtin bi => match bi with
    | .append => Cd (ald G C ⟨n, env, heap⟩ c = true) (ma T G ⟨n, env, heap⟩ dst (.call c) K)
    | _ => False
   | _ => False
  | _ => False
def vfK (C : Cfg) (σ : St) (dst : Option Nat) (op : Op) (X : Prop) : Prop :=
 match C.V with
 | [] => X
 | _ :: _ =>
  let Y := match kindOf op with
   | 1 => Cd (tp C σ.heap = true) X
   | 2 => Cd (tp C σ.heap = true) X
   | _ => X
  match dst with
  | none => Y
  | some d => bif C.ps.contains d then Y else Cd ((σ.get d).nr C.V = true) Y
theorem aiv {C : Cfg} {σ : St} {dst : Option Nat} {op : Op} {X : Prop} (h : vfK C σ dst op X) : X ∧ (C.V = [] ∨ ((∀ d, dst = some d → d ∉ C.ps → (σ.get d).nr C.V = true) ∧ ((kindOf op = 1 ∨ kindOf op = 2) → tp C σ.heap = true))) := by
 unfold vfK at h
 split at h
 ·rename_i e; exact ⟨h, .inl e⟩
 ·have key : ∀ (Z : Prop), (match kindOf op with | 1 => Cd (tp C σ.heap = true) Z | 2 => Cd (tp C σ.heap = true) Z | _ => Z) → Z ∧ ((kindOf op = 1 ∨ kindOf op = 2) → tp C σ.heap = true) := by
   intro Z hZ
   split at hZ
   ·exact ⟨hZ.2, fun _ => hZ.1⟩
   ·exact ⟨hZ.2, fun _ => hZ.1⟩
   ·rename_i h1 h2
    exact ⟨hZ, fun h => h.elim (fun h => absurd h h1) (fun h => absurd h h2)⟩
  dsimp only at h
  cases dst with
  | none =>
   obtain ⟨h1, h2⟩ := key _ h
   exact ⟨h1, .inr ⟨(fun d e => nomatch e), h2⟩⟩
  | some d =>
   simp only at h
   cases hc : C.ps.contains d with
   | true =>
    rw [hc] at h
    obtain ⟨h1, h2⟩ := key _ h
    exact ⟨h1, .inr ⟨fun d' e hn => by cases e; exact absurd (by simpa using hc) hn, h2⟩⟩
   | false =>
    rw [hc] at h
    obtain ⟨h3, h4⟩ := h
    obtain ⟨h1, h2⟩ := key _ h4
    exact ⟨h1, .inr ⟨fun d' e _ => by cases e; exact h3, h2⟩⟩
namespace Dw
section
variable {T : Tab} {P : Program} {G : bj} {C : Cfg} {ops : Array Oper} {σs : Nat → St}
variable {w0 : World} {M : Own} {S0 : Imm} {a : Act} {w : World} {β : Own} {S : Imm} {L : Nat → Prop} {σE : St} {j : Nat} {o : Oper}
def isO (C : Cfg) (i : Nat) : Bool := C.cs.contains i
def n7 (C : Cfg) (ops : Array Oper) (y : Oper) : Bool := ((y.looksAt ops).any fun t => C.ps.contains t) || (match y.dst with | some d => C.ps.contains d | none => false)
def dq (C : Cfg) (ops : Array Oper) (i : Nat) (x : Oper) (j : Nat) (y : Oper) : Bool :=
 !(x.apart ops y) || (eh x && !(gi y)) || (eh y && !(gi x)) || (isO C i && (!(gi y || kindOf y.op == 1 || C.fs.contains j) || n7 C ops y)) || (isO C j && (!(gi x || kindOf x.op == 1 || C.fs.contains i) || n7 C ops x))
theorem aat {i j : Nat} {x y : Oper} (h : dq C ops i x j y = true) : dq C ops j y i x = true := by
 unfold dq at h ⊢
 have hs : ∀ a b : Oper, a.apart ops b = true → b.apart ops a = true := by
  intro a b hab
  obtain ⟨h1, h2, h3⟩ := Oper.apart_spec hab
  unfold Oper.apart
  simp only [Bool.and_eq_true]
  constructor
  ·cases hb : b.dst with
   | none => rfl
   | some d =>
    simp only [Bool.and_eq_true, Bool.not_eq_true', bne_iff_ne]
    exact ⟨by simpa using h3 d hb, fun e => h2 d e hb⟩
  ·cases ha : a.dst with
   | none => rfl
   | some d => simpa using h1 d ha
 have hxy : x.apart ops y = y.apart ops x := by
  cases h1 : x.apart ops y <;> cases h2 : y.apart ops x
  ·rfl
  ·rw [hs _ _ h2] at h1; cases h1
  ·rw [hs _ _ h1] at h2; cases h2
  ·rfl
 rw [hxy] at h
 simp only [Bool.or_eq_true] at h ⊢
 rcases h with (((h | h) | h) | h) | h
 ·exact .inl (.inl (.inl (.inl h)))
 ·exact .inl (.inl (.inr h))
 ·exact .inl (.inl (.inl (.inr h)))
 ·exact .inr h
 ·exact .inl (.inr h)
def ud (C : Cfg) (ops : Array Oper) (ms : List Nat) : List Oper → Nat → Bool
  | [], _ => true
  | o :: os, j => ((bq o).all (· < j)) && ((List.range j).all fun i => match ops[i]? with | some x => !(dq C ops i x j o) || (ms.getD j 0).testBit i | none => true) && ud C ops ms os (j + 1)
theorem q9 {ms : List Nat} (hms : ∀ p i, (ms.getD p 0).testBit i = true → Anc ops p i) : ∀ (os : List Oper) (j : Nat), ops.toList.drop j = os → ud C ops ms os j = true →
  ∀ k o, j ≤ k → ops[k]? = some o → (∀ p ∈ bq o, p < k) ∧ ∀ i x, i < k → ops[i]? = some x → dq C ops i x k o = true → Anc ops k i
 | [], j, hd, _, k, o, hk, ho => by
  have : ops.toList.length ≤ j := List.drop_eq_nil_iff.1 hd
  have h2 : k < ops.size := by
   rcases Nat.lt_or_ge k ops.size with h | h
   ·exact h
   ·simp [Array.getElem?_eq_none h] at ho
  simp at this
  omega
 | o0 :: os, j, hd, h, k, o, hk, ho => by
  simp only [ud, Bool.and_eq_true] at h
  obtain ⟨⟨h1, h2⟩, h3⟩ := h
  by_cases hkj : k = j
  ·subst hkj
   have hoj : ops[k]? = some o0 := by
    have : (ops.toList.drop k)[0]? = some o0 := by rw [hd]; rfl
    simpa using this
   rw [hoj] at ho; cases ho
   refine ⟨fun p hp => by simpa using List.all_eq_true.1 h1 p hp, fun i x hi hx hc => ?_⟩
   have := List.all_eq_true.1 h2 i (by simpa using hi)
   rw [hx] at this
   simp only [hc, Bool.not_true, Bool.false_or] at this
   exact hms k i this
  ·refine q9 hms os (j + 1) ?_ h3 k o (by omega) ho
   have : (ops.toList.drop j).drop 1 = os := by rw [hd]; rfl
   rwa [List.drop_drop] at this
def zy (T : Tab) (C : Cfg) (n : Nat) (ops : Array Oper) (draw : Bool) : Bool :=
  (ops.all fun o => o.dst.all (· < n)) && draw && ud C ops (xz ops.toList []) ops.toList 0 && (ops.toList.all fun o => oi T o.op) &&
  ((List.range ops.size).all fun i => match ops[i]? with | some o => kindOf o.op != 2 || eh o || C.cs.contains i | none => true) &&
  (C.cs.all fun i => (match ops[i]? with | some o => (kindOf o.op == 3 || kindOf o.op == 2) && !eh o | none => true) && !C.fs.contains i) &&
  (ops.toList.all fun o => kindOf o.op != 1 || (match o.dst with | some d => !C.W.contains d | none => true)) && (C.fs.all fun i => stays ops i && (match ops[i]? with | some o => !n7 C ops o | none => true))
structure Stat (T : Tab) (C : Cfg) (ops : Array Oper) : Prop where
 sp : ∀ (k : Nat) (o : Oper), ops[k]? = some o → (∀ p ∈ bq o, p < k) ∧ ∀ (i : Nat) (x : Oper), i < k → ops[i]? = some x → dq C ops i x k o = true → Anc ops k i
 safe : ∀ o ∈ ops.toList, oi T o.op = true
 wr : ∀ (i : Nat) (o : Oper), ops[i]? = some o → isO C i = false → kindOf o.op = 2 → eh o = true
 k3 : ∀ (i : Nat) (o : Oper), isO C i = true → ops[i]? = some o → (kindOf o.op = 3 ∨ (kindOf o.op = 2 ∧ eh o = false)) ∧ C.fs.contains i = false
 al : ∀ (i : Nat) (o : Oper) (d : Nat), ops[i]? = some o → kindOf o.op = 1 → o.dst = some d → d ∉ C.W
 st : ∀ i, C.fs.contains i = true → stays ops i = true
 lp : ∀ (i : Nat) (o : Oper), C.fs.contains i = true → ops[i]? = some o → n7 C ops o = false
theorem aem {i : Nat} {o : Oper} (h : ops[i]? = some o) : o ∈ ops.toList := by
 have : ops.toList[i]? = some o := by simpa using h
 exact List.mem_of_getElem? this
theorem abl {n : Nat} {d : Bool} (h : zy T C n ops d = true) : (∀ o ∈ ops.toList, ∀ d, o.dst = some d → d < n) ∧ d = true ∧ Stat T C ops := by
 simp only [zy, Bool.and_eq_true] at h
 obtain ⟨⟨⟨⟨⟨⟨⟨h1, h2⟩, h3⟩, h4⟩, h5⟩, h6⟩, h7⟩, h8⟩ := h
 refine ⟨fun o ho d hd => ?_, h2, ?_⟩
 ·rw [Array.all_eq_true_iff_forall_mem] at h1
  have := h1 o (Array.mem_toList_iff.1 ho)
  rw [hd] at this
  simpa using this
 ·refine ⟨fun k o => q9 (r9 ops.toList [] (by simp) (by intro p i h; simp at h)) ops.toList 0 (by simp) h3 k o (Nat.zero_le k), fun o ho => List.all_eq_true.1 h4 o ho, fun i o ho hi hk => ?_, fun i o hi ho => ?_, fun i o d ho hk hd => ?_, fun i hi => ?_, fun i o hi ho => ?_⟩
  ·have hlt : i < ops.size := by
    rcases Nat.lt_or_ge i ops.size with h | h
    ·exact h
    ·simp [Array.getElem?_eq_none h] at ho
   have := List.all_eq_true.1 h5 i (List.mem_range.2 hlt)
   unfold isO at hi
   rw [ho] at this
   simp only [hk, hi] at this
   simpa using this
  ·have := List.all_eq_true.1 h6 i (by simpa [isO] using hi)
   rw [ho] at this
   simp only [Bool.and_eq_true, Bool.or_eq_true, beq_iff_eq, Bool.not_eq_true'] at this
   obtain ⟨⟨h, h'⟩, h''⟩ := this
   exact ⟨by rcases h with h | h; exact .inl h; exact .inr ⟨h, h'⟩, h''⟩
  ·have := List.all_eq_true.1 h7 o (aem ho)
   rw [hd] at this
   simpa [hk] using this
  ·have := List.all_eq_true.1 h8 i (by simpa using hi)
   simp only [Bool.and_eq_true] at this
   exact this.1
  ·have := List.all_eq_true.1 h8 i (by simpa using hi)
   rw [ho] at this
   simp only [Bool.and_eq_true, Bool.not_eq_true'] at this
   exact this.2
def NR (C : Cfg) (σ : St) : Prop := C.V = [] ∨ ((∀ t, t ∉ C.ps → (σ.get t).nr C.V = true) ∧ ∀ b f l, b ∉ C.W → lk σ.heap b = some (f, l) → A.nrs C.V l = true)
def eff (tg : List Nat) (houtR : Hp) (heap : Hp) (b : Nat) : Option (Bool × List A) := if tg.contains b then lk houtR b else lk heap b
def pG (C : Cfg) (dst : Option Nat) (r : A) (nP : Nat → A) (σ : St) (t : Nat) : A := if dst = some t then r else if C.ps.contains t then nP t else σ.get t
def pH (C : Cfg) (nW : Nat → Option (Bool × List A)) (σ : St) (b : Nat) : Option (Bool × List A) := if C.W.contains b then nW b else lk σ.heap b
inductive jj (P : Program) (G : bj) (T : Tab) (C : Cfg) (ops : Array Oper) (i : Nat) (o : Oper) (σ τ : St) : Prop where
 | old (hc : isO C i = false) (hw : kindOf o.op = 2 → eh o = true) (h : gq P G T ops o σ τ)
 | skip (hc : isO C i = true) (hg : ir ops o σ) (n : τ.n = σ.n) (get : ∀ t, τ.get t = (σ.put o.dst (.d (.tup []))).get t) (heap : ∀ b, lk τ.heap b = lk σ.heap b)
 | own (hc : isO C i = true) (hg : bg ops o σ) (r : A) (nP : Nat → A) (nW : Nat → Option (Bool × List A)) (n : τ.n = σ.n) (get : ∀ t, τ.get t = pG C o.dst r nP σ t) (heap : ∀ b, lk τ.heap b = pH C nW σ b)
   (fl : ∀ b l, nW b ≠ some (true, l)) (live : ∀ b l, b ∈ C.W → lk σ.heap b ≠ some (true, l)) (key : ∀ b, b ∈ C.W → lk σ.heap b ≠ none → nW b ≠ none)
   (t : ∀ σ', ur G o σ σ' → (∀ d, o.dst = some d → d < σ'.n) → (∀ t, t ∈ C.ps → σ'.get t = σ.get t) → (∀ b ∈ C.W, lk σ'.heap b = lk σ.heap b) →
    (∀ x ∈ o.op.operands, ∀ b, cb (σ.ev G x) b → b ∉ C.W → ∀ fr l, lk σ.heap b = some (fr, l) → ∃ fr', lk σ'.heap b = some (fr', l)) → NR C σ' →
    ∀ {w0 : World} {M : Own} {S0 : Imm} {a : Act} {w : World} {β : Own} {S : Imm}, Rel G w0 M S0 σ' a w β S → ∀ (Q : Exit → Act → World → Prop) (next : Act → World → Prop),
    (∀ σ'' a' w' β' S', Rel G w0 M S0 σ'' a' w' β' S' → σ''.n = σ'.n → (∀ t, σ''.get t = pG C o.dst r nP σ' t) → (∀ b, lk σ''.heap b = pH C nW σ' b) → next a' w') → o.wp P a w next Q)
def jt (C : Cfg) (ops : Array Oper) (i t : Nat) : Prop := ∃ o, ops[i]? = some o ∧ (o.dst = some t ∨ (isO C i = true ∧ t ∈ C.ps))
def dy (G : bj) (C : Cfg) (ops : Array Oper) (σs : Nat → St) (i b : Nat) : Prop := ∃ o, ops[i]? = some o ∧ ((isO C i = true ∧ b ∈ C.W) ∨ (isO C i = false ∧ eh o = true ∧ stb G o (σs i) b) ∨ (isO C i = false ∧ kindOf o.op = 1 ∧ o.dst = some b ∧ bg ops o (σs i)))
theorem yn {i : Nat} {σ τ : St} (h : jj P G T C ops i o σ τ) {t : Nat} (h1 : o.dst ≠ some t) (h2 : ¬ (isO C i = true ∧ t ∈ C.ps)) : τ.get t = σ.get t := by
 cases h with
 | old hc hw h => exact abw h h1 (fun e => by have := hw e.1; rw [e.2] at this; cases this)
 | skip hc hg n get heap => rw [get, b6 h1]
 | own hc hg r nP nW n get heap fl live key t =>
  rw [get]; unfold pG
  rw [if_neg h1, if_neg (fun e => h2 ⟨hc, by simpa using e⟩)]
theorem akg {i : Nat} {σ τ : St} (h : jj P G T C ops i o σ τ) : τ.n = σ.n := by
 cases h with
 | old hc hw h => exact aim h
 | skip hc hg n get heap => exact n
 | own hc hg r nP nW n get heap fl live key t => exact n
theorem abv {i : Nat} {σ τ : St} (h : jj P G T C ops i o σ τ) {b : Nat} (h1 : ¬ (isO C i = true ∧ b ∈ C.W)) (h2 : ¬ (isO C i = false ∧ eh o = true ∧ stb G o σ b)) (h3 : ¬ (isO C i = false ∧ kindOf o.op = 1 ∧ o.dst = some b ∧ bg ops o σ)) : ct τ b = ct σ b := by
 cases h with
 | old hc hw h => exact aae h (fun e => h2 ⟨hc, hw e.1, e.2 (hw e.1)⟩) (fun e => h3 ⟨hc, e⟩)
 | skip hc hg n get heap => unfold ct; rw [heap]
 | own hc hg r nP nW n get heap fl live key t =>
  unfold ct; rw [heap]; unfold pH
  rw [if_neg (fun e => h1 ⟨hc, by simpa using e⟩)]
theorem ad1 {i : Nat} {σ τ : St} (h : jj P G T C ops i o σ τ) {b : Nat} {l : List A} (hl : lk σ.heap b = some (true, l)) : ∃ l', lk τ.heap b = some (true, l') := by
 cases h with
 | old hc hw h => exact yp h hl
 | skip hc hg n get heap => rw [heap]; exact ⟨l, hl⟩
 | own hc hg r nP nW n get heap fl live key t =>
  rw [heap]; unfold pH
  rw [if_neg (fun e => live b l (by simpa using e) hl)]; exact ⟨l, hl⟩
theorem ad0 {i : Nat} {σ τ : St} (h : jj P G T C ops i o σ τ) {b : Nat} (hl : lk σ.heap b ≠ none) : lk τ.heap b ≠ none := by
 cases h with
 | old hc hw h => exact yo h hl
 | skip hc hg n get heap => rw [heap]; exact hl
 | own hc hg r nP nW n get heap fl live key t =>
  rw [heap]; unfold pH
  split
  ·rename_i e; exact key b (by simpa using e) hl
  ·exact hl
theorem ail {i : Nat} {σ τ : St} (h : jj P G T C ops i o σ τ) (hfd : FD σ) : FD τ := by
 cases h with
 | old hc hw h => exact ae6 h hfd
 | skip hc hg n get heap => intro b l hl; rw [heap] at hl; exact hfd b l hl
 | own hc hg r nP nW n get heap fl live key t =>
  intro b l hl
  rw [heap] at hl; unfold pH at hl
  split at hl
  ·exact absurd hl (fl b l)
  ·exact hfd b l hl
variable (hst : ∀ i o, ops[i]? = some o → jj P G T C ops i o (σs i) (σs (i + 1)))
include hst
omit hst in
theorem iz {Q : St → Prop} {a : Nat} (hs : ∀ i o, a ≤ i → ops[i]? = some o → Q (σs i) → Q (σs (i + 1))) (ha : Q (σs a)) : ∀ k, a + k ≤ ops.size → Q (σs (a + k))
 | 0, _ => ha
 | k + 1, hk => by
  obtain ⟨o, ho⟩ : ∃ o, ops[a + k]? = some o := ⟨ops[a + k], by simp [show a + k < ops.size by omega]⟩
  exact hs (a + k) o (by omega) ho (iz hs ha k (by omega))
theorem o2 {a m b : Nat} (ham : a ≤ m) (hm : m ≤ ops.size) (h : lk (σs a).heap b ≠ none) : lk (σs m).heap b ≠ none := by
 have := iz (Q := fun σ => lk σ.heap b ≠ none) (a := a) (fun i o _ ho h => ad0 (hst i o ho) h) h (m - a) (by omega)
 rwa [show a + (m - a) = m by omega] at this
theorem pc {a m b : Nat} (ham : a ≤ m) (hm : m ≤ ops.size) (h : ∃ l, lk (σs a).heap b = some (true, l)) : ∃ l, lk (σs m).heap b = some (true, l) := by
 have := iz (Q := fun σ => ∃ l, lk σ.heap b = some (true, l)) (a := a) (fun i o _ ho ⟨l, h⟩ => ad1 (hst i o ho) h) h (m - a) (by omega)
 rwa [show a + (m - a) = m by omega] at this
theorem adb {m : Nat} (hm : m ≤ ops.size) : (σs m).n = (σs 0).n := by
 have := iz (Q := fun σ => σ.n = (σs 0).n) (a := 0) (fun i o _ ho h => (akg (hst i o ho)).trans h) rfl m (by omega)
 rwa [Nat.zero_add] at this
theorem ml {a m t : Nat} (ham : a ≤ m) (hm : m ≤ ops.size) (h : ∀ i, a ≤ i → i < m → ¬ jt C ops i t) : (σs m).get t = (σs a).get t := by
 obtain ⟨k, rfl⟩ : ∃ k, m = a + k := ⟨m - a, by omega⟩
 clear ham
 induction k with
 | zero => rfl
 | succ k ih =>
  have hk := ih (by omega) (fun i h1 h2 => h i h1 (by omega))
  obtain ⟨o, ho⟩ : ∃ o, ops[a + k]? = some o := ⟨ops[a + k], by simp [show a + k < ops.size by omega]⟩
  have hn := h (a + k) (by omega) (by omega)
  rw [← Nat.add_assoc, yn (hst _ o ho) (fun e => hn ⟨o, ho, .inl e⟩) (fun e => hn ⟨o, ho, .inr e⟩), hk]
theorem sx {a m b : Nat} (ham : a ≤ m) (hm : m ≤ ops.size) (h : ∀ i, a ≤ i → i < m → ¬ dy G C ops σs i b) : ct (σs m) b = ct (σs a) b := by
 obtain ⟨k, rfl⟩ : ∃ k, m = a + k := ⟨m - a, by omega⟩
 clear ham
 induction k with
 | zero => rfl
 | succ k ih =>
  have hk := ih (by omega) (fun i h1 h2 => h i h1 (by omega))
  obtain ⟨o, ho⟩ : ∃ o, ops[a + k]? = some o := ⟨ops[a + k], by simp [show a + k < ops.size by omega]⟩
  have hn := h (a + k) (by omega) (by omega)
  rw [← Nat.add_assoc, abv (hst _ o ho) (fun e => hn ⟨o, ho, .inl e⟩) (fun e => hn ⟨o, ho, .inr (.inl e)⟩) (fun e => hn ⟨o, ho, .inr (.inr e)⟩), hk]
omit hst
def Fz (G : bj) (C : Cfg) (i : Nat) (x : Oper) (σ : St) (b : Nat) : Prop := isO C i = false ∧ kindOf x.op = 3 ∧ rb G x σ b
structure cn (G : bj) (C : Cfg) (ops : Array Oper) (σs : Nat → St) (L : Nat → Prop) (σE : St) : Prop where
 n : σE.n = (σs 0).n
 get : ∀ t m, m ≤ ops.size → (∀ i, i < ops.size → jt C ops i t → (L i ↔ i < m)) → σE.get t = (σs m).get t
 ct : ∀ b m, m ≤ ops.size → (∀ i, i < ops.size → dy G C ops σs i b → (L i ↔ i < m)) → Ev.ct σE b = Ev.ct (σs m) b
 fl : ∀ m, m ≤ ops.size → ∀ b, (∀ i x, ops[i]? = some x → Fz G C i x (σs i) b → L i → i < m) → ∀ l, lk (σs m).heap b = some (false, l) → ∀ l', lk σE.heap b ≠ some (true, l')
 nr : NR C σE
include hst in
theorem cn.start (h0 : NR C (σs 0)) : cn G C ops σs (fun _ => False) (σs 0) := by
 refine ⟨rfl, fun t m hm h => ?_, fun b m hm h => ?_, fun m hm b _ l hl l' h0 => ?_, h0⟩
 ·exact (ml hst (Nat.zero_le m) hm fun i _ hi ht => (h i (by omega) ht).2 hi).symm
 ·exact (sx hst (Nat.zero_le m) hm fun i _ hi ht => (h i (by omega) ht).2 hi).symm
 ·obtain ⟨l2, h2⟩ := pc hst (Nat.zero_le m) hm ⟨l', h0⟩
  rw [hl] at h2; cases h2
theorem qh {i j : Nat} {x o : Oper} {t : Nat} (hx : x.dst = some t) (ht : t ∈ o.looksAt ops ∨ o.dst = some t) : dq C ops i x j o = true := by
 unfold dq
 have : x.apart ops o = false := by
  cases ha : x.apart ops o with
  | false => rfl
  | true =>
   obtain ⟨h1, h2, _⟩ := Oper.apart_spec ha
   rcases ht with ht | ht
   ·exact absurd ht (h1 t hx)
   ·exact absurd ht (h2 t hx)
 simp [this]
theorem r7 {o : Oper} {t : Nat} (ht : t ∈ o.looksAt ops ∨ o.dst = some t) (hp : t ∈ C.ps) : n7 C ops o = true := by
 unfold n7
 rcases ht with ht | ht
 ·have : ((o.looksAt ops).any fun t => C.ps.contains t) = true := List.any_eq_true.2 ⟨t, ht, by simpa using hp⟩
  rw [this]; rfl
 ·rw [ht]; simp [hp]
theorem abd {i j : Nat} {x y : Oper} (h : isO C i = true) (hy : n7 C ops y = true) : dq C ops i x j y = true ∧ dq C ops j y i x = true := by
 unfold dq; rw [h, hy]; simp
theorem l8 {i j : Nat} {x y : Oper} (h : eh x = true) (hy : gi y = false) : dq C ops i x j y = true ∧ dq C ops j y i x = true := by
 unfold dq; simp [h, hy]
theorem j5 {i j : Nat} {x y : Oper} (h : isO C i = true) (hy : gi y = false) (h1 : kindOf y.op ≠ 1) (hf : C.fs.contains j = false) : dq C ops i x j y = true ∧ dq C ops j y i x = true := by
 unfold dq
 have e : (kindOf y.op == 1) = false := by simpa using h1
 rw [h, hy, e, hf]; simp
def aai (G : bj) (C : Cfg) (ops : Array Oper) (σs : Nat → St) : Prop := ∀ j o b, C.fs.contains j = true → ops[j]? = some o → b ∈ C.W → rb G o (σs j) b → False
theorem aii {σ : St} {b : Nat} (h : stb G o σ b) : rb G o σ b := by
 unfold stb at h
 split at h
 ·rename_i t a v e
  exact ⟨a, by rw [e]; simp [Op.operands], h⟩
 ·exact h.elim
theorem si (h : kindOf o.op = 3) : gi o = false := by
 cases hl : gi o with
 | false => rfl
 | true => have := fe hl; rw [h] at this; cases this
theorem sf (h : kindOf o.op = 1) : gi o = false := by
 cases hl : gi o with
 | false => rfl
 | true => have := fe hl; rw [h] at this; cases this
theorem mu (h : kindOf o.op = 3 ∨ (kindOf o.op = 2 ∧ eh o = false)) : gi o = false := by
 cases hl : gi o with
 | false => rfl
 | true => have := fe hl; rcases h with h | ⟨h, _⟩ <;> rw [h] at this <;> cases this
theorem afw (h : kindOf o.op = 3 ∨ (kindOf o.op = 2 ∧ eh o = false)) : eh o = false := by
 rcases h with h | h
 ·cases e : eh o with
  | false => rfl
  | true => rw [(cy e).1] at h; cases h
 ·exact h.2
theorem sj (h : kindOf o.op = 3 ∨ (kindOf o.op = 2 ∧ eh o = false)) : kindOf o.op ≠ 1 := by rcases h with h | ⟨h, _⟩ <;> rw [h] <;> decide
theorem ad2 (hS : Stat T C ops) (hA : aai G C ops σs) {i j b : Nat} {x y : Oper} (hx : ops[i]? = some x) (hy : ops[j]? = some y) (hi : dy G C ops σs i b) (hj : dy G C ops σs j b) : dq C ops i x j y = true := by
 obtain ⟨x', hx', hi⟩ := hi
 obtain ⟨y', hy', hj⟩ := hj
 rw [hx] at hx'; cases hx'
 rw [hy] at hy'; cases hy'
 have stA : ∀ {k : Nat} {z : Oper}, ops[k]? = some z → eh z = true → stb G z (σs k) b → b ∈ C.W → C.fs.contains k = false := fun {k z} hz hs hb hW => by
  cases e : C.fs.contains k with
  | false => rfl
  | true => exact (hA k z b e hz hW (aii hb)).elim
 rcases hi with ⟨i1, i2⟩ | ⟨i1, i2, i3⟩ | ⟨i1, i2, i3, i4⟩
 ·rcases hj with ⟨j1, j2⟩ | ⟨j1, j2, j3⟩ | ⟨j1, j2, j3, j4⟩
  ·have k := hS.k3 j y j1 hy
   exact (j5 i1 (mu k.1) (sj k.1) k.2).1
  ·exact (j5 i1 (by cases e : gi y with | false => rfl | true => rw [n6 e] at j2; cases j2) (by rw [(cy j2).1]; decide) (stA hy j2 j3 i2)).1
  ·exact absurd i2 (hS.al j y b hy j2 j3)
 ·rcases hj with ⟨j1, j2⟩ | ⟨j1, j2, j3⟩ | ⟨j1, j2, j3, j4⟩
  ·exact (j5 j1 (by cases e : gi x with | false => rfl | true => rw [n6 e] at i2; cases i2) (by rw [(cy i2).1]; decide) (stA hx i2 i3 j2)).2
  ·exact (l8 i2 (by cases e : gi y with | false => rfl | true => rw [n6 e] at j2; cases j2)).1
  ·exact (l8 i2 (sf j2)).1
 ·rcases hj with ⟨j1, j2⟩ | ⟨j1, j2, j3⟩ | ⟨j1, j2, j3, j4⟩
  ·exact absurd j2 (hS.al i x b hx i2 i3)
  ·exact (l8 j2 (sf i2)).2
  ·exact qh i3 (.inr j3)
theorem aby (hS : Stat T C ops) {i j t : Nat} {x y : Oper} (hx : ops[i]? = some x) (hy : ops[j]? = some y) (hi : jt C ops i t) (hj : t ∈ y.looksAt ops ∨ jt C ops j t) : dq C ops i x j y = true := by
 obtain ⟨x', hx', hi⟩ := hi
 rw [hx] at hx'; cases hx'
 have hj' : (t ∈ y.looksAt ops ∨ y.dst = some t) ∨ (isO C j = true ∧ t ∈ C.ps) := by
  rcases hj with h | ⟨y', hy', h⟩
  ·exact .inl (.inl h)
  ·rw [hy] at hy'; cases hy'
   rcases h with h | h
   ·exact .inl (.inr h)
   ·exact .inr h
 rcases hi with hi | ⟨hi, hp⟩
 ·rcases hj' with h | ⟨h, hp⟩
  ·exact qh hi h
  ·exact (abd h (r7 (ops := ops) (.inr hi) hp)).2
 ·rcases hj' with h | ⟨h, _⟩
  ·exact (abd hi (r7 h hp)).1
  ·have k := hS.k3 j y h hy
   exact (j5 hi (mu k.1) (sj k.1) k.2).1
theorem acd (hcl : ∀ k o, L k → ops[k]? = some o → ∀ p ∈ bq o, L p) (hS : Stat T C ops) (hj : ops[j]? = some o) (hr : ∀ p ∈ bq o, L p) : ∀ i x, i < j → ops[i]? = some x → dq C ops i x j o = true → L i := fun i x hi hx hc =>
 xl hcl ((hS.sp j o hj).2 i x hi hx hc) (fun o' ho' => by rw [hj] at ho'; cases ho'; exact hr)
theorem agp (hcl : ∀ k o, L k → ops[k]? = some o → ∀ p ∈ bq o, L p) (hS : Stat T C ops) (hj : ops[j]? = some o) (hnj : ¬ L j) : ∀ i x, j < i → ops[i]? = some x → dq C ops i x j o = true → ¬ L i := fun i x hi hx hc hL =>
 hnj (ke hcl ((hS.sp i x hx).2 j o hi hj (aat hc)) hL)
variable (hS : Stat T C ops) (hA : aai G C ops σs) (hj : ops[j]? = some o) (hnj : ¬ L j) (ord1 : ∀ i x, i < j → ops[i]? = some x → dq C ops i x j o = true → L i) (ord2 : ∀ i x, j < i → ops[i]? = some x → dq C ops i x j o = true → ¬ L i)
include hj in
theorem lt_size : j < ops.size := by
 rcases Nat.lt_or_ge j ops.size with h | h
 ·exact h
 ·simp [Array.getElem?_eq_none h] at hj
include hj hnj ord1 ord2 in
theorem aci {p : Nat → Prop} (hc : ∀ i x, ops[i]? = some x → i ≠ j → p i → dq C ops i x j o = true) : ∀ i, i < ops.size → p i → (L i ↔ i < j) := by
 intro i hi hp
 obtain ⟨x, hx⟩ : ∃ x, ops[i]? = some x := ⟨ops[i], by simp [hi]⟩
 rcases Nat.lt_trichotomy i j with h | h | h
 ·exact ⟨fun _ => h, fun _ => ord1 i x h hx (hc i x hx (by omega) hp)⟩
 ·subst h; exact ⟨fun h => absurd h hnj, fun h => absurd h (Nat.lt_irrefl _)⟩
 ·exact ⟨fun hL => absurd hL (ord2 i x h hx (hc i x hx (by omega) hp)), fun h' => by omega⟩
include hS hj hnj ord1 ord2 in
theorem get_at (hM : cn G C ops σs L σE) {t : Nat} (ht : t ∈ o.looksAt ops ∨ jt C ops j t) : σE.get t = (σs j).get t :=
 hM.get t j (Nat.le_of_lt (lt_size hj)) (aci hj hnj ord1 ord2 fun i x hx hne hp => aby hS hx hj hp ht)
include hS hA hj hnj ord1 ord2 in
theorem pf (hM : cn G C ops σs L σE) {b : Nat} (ht : dy G C ops σs j b) : ct σE b = ct (σs j) b :=
 hM.ct b j (Nat.le_of_lt (lt_size hj)) (aci hj hnj ord1 ord2 fun i x hx hne hp => ad2 hS hA hx hj hp ht)
include hst hS hA hj hnj ord2 in
theorem cn.stepG (hM : cn G C ops σs L σE) {σE' : St} (hn : σE'.n = σE.n) (hget1 : ∀ t, jt C ops j t → σE'.get t = (σs (j + 1)).get t) (hget2 : ∀ t, ¬ jt C ops j t → σE'.get t = σE.get t)
  (hct1 : ∀ b, dy G C ops σs j b → Ev.ct σE' b = Ev.ct (σs (j + 1)) b) (hct2 : ∀ b, ¬ dy G C ops σs j b → Ev.ct σE' b = Ev.ct σE b)
  (hfl : ∀ b l', lk σE'.heap b = some (true, l') → (∃ l, lk σE.heap b = some (true, l)) ∨ (Fz G C j o (σs j) b ∧ ∃ l, lk (σs (j + 1)).heap b = some (true, l))) (hN : NR C (σs (j + 1))) : cn G C ops σs (fun i => L i ∨ i = j) σE' := by
 have hjs := lt_size hj
 refine ⟨hn.trans hM.n, fun t m hm h => ?_, fun b m hm h => ?_, fun m hm b h l hl l' h0 => ?_, ?_⟩
 ·by_cases ht : jt C ops j t
  ·rw [hget1 t ht]
   have hjm : j < m := (h j hjs ht).1 (.inr rfl)
   refine (ml hst hjm hm fun i h1 h2 htc => ?_).symm
   obtain ⟨x, hx⟩ : ∃ x, ops[i]? = some x := ⟨ops[i], by simp [show i < ops.size by omega]⟩
   have hL := (h i (by omega) htc).2 h2
   rcases hL with hL | hL
   ·exact ord2 i x (by omega) hx (aby hS hx hj htc (.inr ht)) hL
   ·omega
  ·rw [hget2 t ht]
   refine hM.get t m hm fun i hi htc => ?_
   have := h i hi htc
   have hne : i ≠ j := by rintro rfl; exact ht htc
   exact ⟨fun hL => this.1 (.inl hL), fun hlt => (this.2 hlt).resolve_right hne⟩
 ·by_cases hb : dy G C ops σs j b
  ·rw [hct1 b hb]
   have hjm : j < m := (h j hjs hb).1 (.inr rfl)
   refine (sx hst hjm hm fun i h1 h2 htc => ?_).symm
   obtain ⟨x, hx⟩ : ∃ x, ops[i]? = some x := ⟨ops[i], by simp [show i < ops.size by omega]⟩
   have hL := (h i (by omega) htc).2 h2
   rcases hL with hL | hL
   ·exact ord2 i x (by omega) hx (ad2 hS hA hx hj htc hb) hL
   ·omega
  ·rw [hct2 b hb]
   refine hM.ct b m hm fun i hi htc => ?_
   have := h i hi htc
   have hne : i ≠ j := by rintro rfl; exact hb htc
   exact ⟨fun hL => this.1 (.inl hL), fun hlt => (this.2 hlt).resolve_right hne⟩
 ·rcases hfl b l' h0 with ⟨l2, h2⟩ | ⟨hlt, h2⟩
  ·exact hM.fl m hm b (fun i x hx hlx hL => h i x hx hlx (.inl hL)) l hl l2 h2
  ·have hjm : j < m := h j o hj hlt (.inr rfl)
   obtain ⟨l3, h3⟩ := pc hst hjm hm h2
   rw [hl] at h3; cases h3
 ·rcases hN with hN | ⟨n1, n2⟩
  ·exact .inl hN
  rcases hM.nr with hE | ⟨e1, e2⟩
  ·exact .inl hE
  have row : ∀ (σ τ : St) b, Ev.ct τ b = Ev.ct σ b → (∀ f l, lk σ.heap b = some (f, l) → A.nrs C.V l = true) → ∀ f l, lk τ.heap b = some (f, l) → A.nrs C.V l = true := by
   intro σ τ b hc hr f l hl
   unfold Ev.ct at hc
   rw [hl] at hc
   cases e : lk σ.heap b with
   | none => rw [e] at hc; cases hc
   | some y =>
    obtain ⟨f', l'⟩ := y
    rw [e] at hc
    simp only [Option.map_some, Option.some.injEq] at hc
    rw [hc]; exact hr f' l' e
  refine .inr ⟨fun t ht => ?_, fun b f l hb hl => ?_⟩
  ·by_cases h : jt C ops j t
   ·rw [hget1 t h]; exact n1 t ht
   ·rw [hget2 t h]; exact e1 t ht
  ·by_cases h : dy G C ops σs j b
   ·exact row _ _ b (hct1 b h) (fun f l => n2 b f l hb) f l hl
   ·exact row _ _ b (hct2 b h) (fun f l => e2 b f l hb) f l hl
include hS hj hnj ord1 ord2 in
theorem ae1 (hM : cn G C ops σs L σE) : ur G o (σs j) σE := by
 intro x hx
 cases x with
 | tmp t => exact get_at hS hj hnj ord1 ord2 hM (.inl (r8 hx))
 | _ => rfl
include hS hj hnj ord1 ord2 in
theorem aiy (hM : cn G C ops σs L σE) (hg : bg ops o (σs j)) : bg ops o σE := by
 rcases hg with hg | ⟨k, want, g, h1, h2, h3⟩
 ·exact .inl hg
 ·exact .inr ⟨k, want, g, h1, h2, by rw [get_at hS hj hnj ord1 ord2 hM (.inl (k0 h1 h2))]; exact h3⟩
include hS hj hnj ord1 ord2 in
theorem ak4 (hM : cn G C ops σs L σE) (hg : ir ops o (σs j)) : ir ops o σE := by
 obtain ⟨k, want, g, h1, h2, h3⟩ := hg
 exact ⟨k, want, g, h1, h2, by rw [get_at hS hj hnj ord1 ord2 hM (.inl (k0 h1 h2))]; exact h3⟩
include hst in
theorem ahp {i b : Nat} {x : Oper} (hx : ops[i]? = some x) (h0 : isO C i = false) (h : kindOf x.op = 1 ∧ x.dst = some b ∧ bg ops x (σs i)) : lk (σs i).heap b = none ∧ lk (σs (i + 1)).heap b ≠ none := by
 have hs := hst i x hx
 cases hs with
 | skip hc _ _ _ _ => rw [h0] at hc; cases hc
 | own hc => rw [h0] at hc; cases hc
 | old hc hw hs =>
  obtain ⟨τ0, hs, _, _, hh⟩ := hs
  cases hs with
  | skip hg _ => exact (kg h.2.2 hg).elim
  | lt hg hl _ _ _ => rw [fe hl] at h; exact absurd h.1 (by decide)
  | st hg hs _ _ _ _ _ _ => rw [(cy hs).1] at h; exact absurd h.1 (by decide)
  | val hg hk _ _ _ _ => rw [h.1] at hk; cases hk
  | call hg hk _ _ _ _ _ _ _ => rw [h.1] at hk; cases hk
  | wr hg hk _ _ _ _ _ _ => rw [h.1] at hk; cases hk
  | new hg hk d hd r l hf he t =>
   rw [h.2.1] at hd; cases hd
   refine ⟨hf, ?_⟩
   rw [hh, he]
   simp [St.put, St.new, lk]
include hst hS hA hj hnj ord1 ord2 in
theorem wi (hcl : ∀ k o, L k → ops[k]? = some o → ∀ p ∈ bq o, L p) (hrel : Rel G w0 M S0 σE a w β S) (hM : cn G C ops σs L σE) (hk1 : kindOf o.op ≠ 1) (hk2 : eh o = false) (hlt : gi o = false) :
  ∀ x ∈ o.op.operands, ∀ b, cb ((σs j).ev G x) b → (isO C j = true → b ∉ C.W) → ∀ fr l, (σs j).hp b = some (fr, l) → ∃ fr', σE.hp b = some (fr', l) := by
 intro x hx b hrf' hO fr l hl
 have hsame := ae1 hS hj hnj ord1 ord2 hM x hx
 have hne := wj (G := G) hrel (x := x) (b := b) (by rw [hsame]; exact hrf')
 have hjs := lt_size hj
 have hl' : lk (σs j).heap b = some (fr, l) := hl
 have hcw : ∀ i y, ops[i]? = some y → ((isO C i = true ∧ b ∈ C.W) ∨ (isO C i = false ∧ eh y = true ∧ stb G y (σs i) b)) → dq C ops i y j o = true := fun i y hy hyt => by
  rcases hyt with ⟨h1, h2⟩ | ⟨h1, h2, h3⟩
  ·refine (j5 h1 hlt hk1 ?_).1
   cases e : C.fs.contains j with
   | false => rfl
   | true => exact (hA j o b e hj h2 ⟨x, hx, hrf'⟩).elim
  ·exact (l8 h2 hlt).1
 have hall : ∀ i x, i < j → ops[i]? = some x → isO C i = false → (kindOf x.op = 1 ∧ x.dst = some b ∧ bg ops x (σs i)) → L i := by
  intro i0 x0 hi0 hx0 ho0 hm0
  refine Classical.byContradiction fun hn0 => ?_
  obtain ⟨hnone, hsome⟩ := ahp hst hx0 ho0 hm0
  have hcons : ∀ i, i < ops.size → dy G C ops σs i b → (L i ↔ i < i0) := by
   rintro i hi hyt
   have t0 : dy G C ops σs i0 b := ⟨x0, hx0, .inr (.inr ⟨ho0, hm0⟩)⟩
   obtain ⟨y, hy, hyc⟩ := hyt
   rcases Nat.lt_trichotomy i i0 with h | h | h
   ·refine ⟨fun _ => h, fun _ => ?_⟩
    rcases hyc with hyc | hyc | ⟨y1, y2⟩
    ·exact ord1 i y (by omega) hy (hcw i y hy (.inl hyc))
    ·exact ord1 i y (by omega) hy (hcw i y hy (.inr hyc))
    ·obtain ⟨_, h2⟩ := ahp hst hy y1 y2
     exact absurd hnone (o2 hst (a := i + 1) (by omega) (by omega) h2)
   ·subst h
    exact ⟨fun h => absurd h hn0, fun h => absurd h (Nat.lt_irrefl _)⟩
   ·refine ⟨fun hL => ?_, fun h' => by omega⟩
    exfalso
    have hc := ad2 hS hA hx0 hy t0 ⟨y, hy, hyc⟩
    exact hn0 (ke hcl ((hS.sp i y hy).2 i0 x0 h hx0 hc) hL)
  have := hM.ct b i0 (by omega) hcons
  unfold ct at this
  rw [hnone] at this
  exact hne (by simpa using this)
 have hcons : ∀ i, i < ops.size → dy G C ops σs i b → (L i ↔ i < j) := by
  rintro i hi ⟨y, hy, hyt⟩
  rcases Nat.lt_trichotomy i j with h | h | h
  ·refine ⟨fun _ => h, fun _ => ?_⟩
   rcases hyt with hyt | hyt | ⟨y1, y2⟩
   ·exact ord1 i y h hy (hcw i y hy (.inl hyt))
   ·exact ord1 i y h hy (hcw i y hy (.inr hyt))
   ·exact hall i y h hy y1 y2
  ·subst h
   rw [hj] at hy; cases hy
   rcases hyt with hyt | hyt | ⟨y1, y2⟩
   ·exact absurd hyt.2 (hO hyt.1)
   ·rw [hk2] at hyt; cases hyt.2.1
   ·exact absurd y2.1 hk1
  ·refine ⟨fun hL => ?_, fun h' => by omega⟩
   exfalso
   rcases hyt with hyt | hyt | ⟨y1, y2⟩
   ·exact ord2 i y h hy (hcw i y hy (.inl hyt)) hL
   ·exact ord2 i y h hy (hcw i y hy (.inr hyt)) hL
   ·obtain ⟨h1, _⟩ := ahp hst hy y1 y2
    exact absurd h1 (o2 hst (a := j) (Nat.le_of_lt h) (by omega) (by rw [hl']; simp))
 have := hM.ct b j (Nat.le_of_lt hjs) hcons
 unfold ct at this
 rw [hl'] at this
 simp only [Option.map_some, Option.map_eq_some_iff] at this
 obtain ⟨y, hy, e⟩ := this
 obtain ⟨fr', l'⟩ := y
 exact ⟨fr', by rw [← e]; exact hy⟩
include hS hj hnj ord1 ord2 in
theorem aj0 (hM : cn G C ops σs L σE) {d : Nat} (hk : kindOf o.op = 1) (hd : o.dst = some d) (hn : lk (σs j).heap d = none) : lk σE.heap d = none := by
 have hcons := aci (p := fun i => dy G C ops σs i d) hj hnj ord1 ord2 fun i y hy hne ⟨y', hy', hyt⟩ => by
  rw [hy] at hy'; cases hy'
  rcases hyt with hyt | hyt | hyt
  ·exact absurd hyt.2 (hS.al j o d hj hk hd)
  ·exact (l8 hyt.2.1 (sf hk)).1
  ·exact qh hyt.2.2.1 (.inr hd)
 have := hM.ct d j (Nat.le_of_lt (lt_size hj)) hcons
 unfold ct at this
 rw [hn] at this
 simpa using this
end
end Dw
end Go.Ev

namespace Go.Ev
open Go
def mi (P : Program) (G : bj) (T : Tab) (C : Cfg) (ops : Array Oper) : Nat → List Oper → St → (St → Prop) → Prop
 | _, [], σ, Q => Q σ
 | i, o :: rest, σ, Q => jv ops σ o (fun σ => bif C.cs.contains i then ako P G T C σ o.dst o.op (fun r σ' => σ'.gl o.dst r fun σ' => vfK C σ' o.dst o.op (mi P G T C ops (i + 1) rest σ' Q)) else jc P G T σ o fun σ' => vfK C σ' o.dst o.op (mi P G T C ops (i + 1) rest σ' Q))
   (fun σ => σ.gl o.dst (.d (.tup [])) fun σ => mi P G T C ops (i + 1) rest σ Q)
namespace Dw
section
variable {T : Tab} {P : Program} {G : bj} {C : Cfg} {ops : Array Oper} {σs : Nat → St}
variable {w0 : World} {M : Own} {S0 : Imm} {a : Act} {w : World} {β : Own} {S : Imm} {L : Nat → Prop} {σE : St} {j : Nat} {o : Oper}
theorem ad9 {σ τ : St} (h : NR C σ) (hd : C.V = [] ∨ ∀ t, t ∉ C.ps → τ.get t = σ.get t ∨ (τ.get t).nr C.V = true) (hr : C.V = [] ∨ (∀ b, b ∉ C.W → ct τ b = ct σ b) ∨ tp C τ.heap = true) : NR C τ := by
 rcases h with h | ⟨h1, h2⟩
 ·exact .inl h
 rcases hd with hd | hd
 ·exact .inl hd
 rcases hr with hr | hr | hr
 ·exact .inl hr
 ·refine .inr ⟨fun t ht => ?_, fun b f l hb hl => ?_⟩
  ·rcases hd t ht with e | e
   ·rw [e]; exact h1 t ht
   ·exact e
  ·have := hr b hb
   unfold ct at this
   rw [hl] at this
   cases e : lk σ.heap b with
   | none => rw [e] at this; cases this
   | some y =>
    obtain ⟨f', l'⟩ := y
    rw [e] at this
    simp only [Option.map_some, Option.some.injEq] at this
    rw [this]
    exact h2 b f' l' hb e
 ·simp only [tp, Bool.or_eq_true, List.isEmpty_iff] at hr
  rcases hr with hr | hr
  ·exact .inl hr
  refine .inr ⟨fun t ht => ?_, fun b f l hb hl => ?_⟩
  ·rcases hd t ht with e | e
   ·rw [e]; exact h1 t ht
   ·exact e
  ·have := List.all_eq_true.1 hr _ (gr hl)
   simp only [Bool.or_eq_true] at this
   rcases this with h | h
   ·exact absurd (by simpa using h) hb
   ·exact h
theorem ak5 {o : Oper} (h : kindOf o.op ≠ 2) : eh o = false := by
 cases e : eh o with
 | false => rfl
 | true => exact absurd (cy e).1 h
theorem wy (hT : bw P T) (hst : ∀ i o, ops[i]? = some o → jj P G T C ops i o (σs i) (σs (i + 1))) (hS : Stat T C ops) (hA : aai G C ops σs) (hN : ∀ m, m ≤ ops.size → NR C (σs m))
  (hcl : ∀ k o, L k → ops[k]? = some o → ∀ p ∈ bq o, L p) (hj : ops[j]? = some o) (hnj : ¬ L j) (hr : ∀ p ∈ bq o, L p)
  (hdst : ∀ d, o.dst = some d → d < σE.n) (hrel : Rel G w0 M S0 σE a w β S) (hM : cn G C ops σs L σE) {K : Act → World → Prop} {Q : Exit → Act → World → Prop}
  (hK : ∀ a w σ' β S, Rel G w0 M S0 σ' a w β S → cn G C ops σs (fun i => L i ∨ i = j) σ' → K a w) : wpOp P ops Q j K a w := by
 have ord1 := acd hcl hS hj hr
 have ord2 := agp hcl hS hj hnj
 have hsame := ae1 hS hj hnj ord1 ord2 hM
 have hjs := lt_size hj
 have nJ := hN (j + 1) hjs
 have mk : ∀ {σE' : St}, σE'.n = σE.n → (∀ t, jt C ops j t → σE'.get t = (σs (j + 1)).get t) → (∀ t, ¬ jt C ops j t → σE'.get t = σE.get t) →
   (∀ b, dy G C ops σs j b → Ev.ct σE' b = Ev.ct (σs (j + 1)) b) → (∀ b, ¬ dy G C ops σs j b → Ev.ct σE' b = Ev.ct σE b) →
   (∀ b l', lk σE'.heap b = some (true, l') → (∃ l, lk σE.heap b = some (true, l)) ∨ (Fz G C j o (σs j) b ∧ ∃ l, lk (σs (j + 1)).heap b = some (true, l))) →
   cn G C ops σs (fun i => L i ∨ i = j) σE' := fun h1 h2 h3 h4 h5 h6 =>
  cn.stepG hst hS hA hj hnj ord2 hM h1 h2 h3 h4 h5 h6 nJ
 have tD : ∀ t, isO C j = false → (jt C ops j t ↔ o.dst = some t) := fun t hc => by
  constructor
  ·rintro ⟨x, hx, h⟩
   rw [hj] at hx; cases hx
   rcases h with h | h
   ·exact h
   ·rw [hc] at h; cases h.1
  ·exact fun h => ⟨o, hj, .inl h⟩
 have hs := hst j o hj
 cases hs with
 | skip hc hg n get heap =>
  have hw := so hrel (ak4 hS hj hnj ord1 ord2 hM hg)
  have hrel' := o7 hrel o.dst hdst
  simp only [wpOp, hj, hw, Bool.false_eq_true, if_false]
  refine hK _ _ _ _ _ hrel' (mk (iw _ _ _) (fun t ht => ?_) (fun t ht => b6 fun e => ht ⟨o, hj, .inl e⟩) (fun b hb => ?_) (fun b _ => by simp only [ct, aq]) (fun b l' hl => .inl ⟨l', by rw [aq] at hl; exact hl⟩))
  ·rw [get]
   have hg2 := get_at hS hj hnj ord1 ord2 hM (t := t) (.inr ht)
   cases e : o.dst with
   | none => exact hg2
   | some d =>
    rw [bl, bl]
    split
    ·rfl
    ·exact hg2
  ·have := pf hS hA hj hnj ord1 ord2 hM hb
   unfold ct at this ⊢
   rw [aq, heap, this]
 | own hc hg r nP nW n get heap fl live key t =>
  have tW : ∀ b, b ∈ C.W → dy G C ops σs j b := fun b hb => ⟨o, hj, .inl ⟨hc, hb⟩⟩
  have k3 := hS.k3 j o hc hj
  refine mw hj (qj hrel (aiy hS hj hnj ord1 ord2 hM hg)) (t σE hsame hdst (fun t ht => get_at hS hj hnj ord1 ord2 hM (.inr ⟨o, hj, .inr ⟨hc, ht⟩⟩)) (fun b hb => ?_)
   (fun x hx b hr hb fr l hl => wi hst hS hA hj hnj ord1 ord2 hcl hrel hM (sj k3.1) (afw k3.1) (mu k3.1) x hx b hr (fun _ => hb) fr l hl) hM.nr hrel Q K fun σ'' a' w' β' S' h1 h2 h3 h4 => ?_)
  ·have hcb := pf hS hA hj hnj ord1 ord2 hM (tW b hb)
   unfold ct at hcb
   cases h : lk (σs j).heap b with
   | none => rw [h] at hcb; simpa using hcb
   | some y =>
    obtain ⟨f0, l⟩ := y
    have hf0 : f0 = false := by
     cases f0 with
     | false => rfl
     | true => exact absurd h (live b l hb)
    subst hf0
    rw [h] at hcb
    simp only [Option.map_some, Option.map_eq_some_iff] at hcb
    obtain ⟨y, hy, e⟩ := hcb
    obtain ⟨fr, l3⟩ := y
    cases fr with
    | false => rw [hy, ← e]
    | true =>
     exfalso
     refine hM.fl j (Nat.le_of_lt hjs) b (fun i x hx hz hL => ?_) l h l3 hy
     rcases Nat.lt_trichotomy i j with hij | hij | hij
     ·exact hij
     ·subst hij; exact absurd hL hnj
     ·have hf : C.fs.contains i = false := by
       cases e : C.fs.contains i with
       | false => rfl
       | true => exact (hA i x b e hx hb hz.2.2).elim
      exact absurd hL (ord2 i x hij hx (j5 hc (si hz.2.1) (by rw [hz.2.1]; decide) hf).2)
  ·refine hK _ _ _ _ _ h1 (mk h2 (fun t ht => ?_) (fun t ht => ?_) (fun b hb => ?_) (fun b hb => ?_) (fun b l' hl => ?_))
   ·rw [h3, get]
    have hg2 := get_at hS hj hnj ord1 ord2 hM (t := t) (.inr ht)
    unfold pG
    split
    ·rfl
    ·split
     ·rfl
     ·exact hg2
   ·rw [h3]; unfold pG
    rw [if_neg (fun e => ht ⟨o, hj, .inl e⟩), if_neg (fun e => ht ⟨o, hj, .inr ⟨hc, by simpa using e⟩⟩)]
   ·have hcb := pf hS hA hj hnj ord1 ord2 hM hb
    unfold ct at hcb ⊢
    rw [h4, heap]; unfold pH
    split
    ·rfl
    ·exact hcb
   ·unfold ct
    rw [h4]; unfold pH
    rw [if_neg (fun e => hb (tW b (by simpa using e)))]
   ·rw [h4] at hl; unfold pH at hl
    split at hl
    ·exact absurd hl (fl b l')
    ·exact .inl ⟨l', hl⟩
 | old hc hw hs =>
  obtain ⟨τ, hs, e1, e2, hh⟩ := hs
  have hfin : ∀ {K' : St → Prop}, jc P G T σE o K' → bg ops o (σs j) → (∀ σ', K' σ' → cn G C ops σs (fun i => L i ∨ i = j) σ') → wpOp P ops Q j K a w := by
   intro K' hev hg hm
   refine mw hj (qj hrel (aiy hS hj hnj ord1 ord2 hM hg)) (Oper.wp_mono ?_ (mh hT hrel hdst hev Q))
   rintro a' w' ⟨σ2, β2, S2, hK2, h2, _⟩
   exact hK a' w' σ2 β2 S2 h2 (hm σ2 hK2)
  cases hs with
  | skip hg h =>
   have hw := so hrel (ak4 hS hj hnj ord1 ord2 hM hg)
   have hrel' := o7 hrel o.dst hdst
   simp only [wpOp, hj, hw, Bool.false_eq_true, if_false]
   refine hK _ _ _ _ _ hrel' (mk (iw _ _ _) (fun t ht => ?_) (fun t ht => b6 fun e => ht ((tD t hc).2 e)) (fun b hb => ?_) (fun b _ => by simp only [ct, aq]) (fun b l' hl => .inl ⟨l', by rw [aq] at hl; exact hl⟩))
   ·have ht := (tD t hc).1 ht
    rw [e2.get, h, ht, bl, if_pos rfl, bl, if_pos rfl]
   ·have := pf hS hA hj hnj ord1 ord2 hM hb
    unfold ct at this ⊢
    rw [aq, hh, h, aq, this]
  | lt hg hl r h t =>
   have hk := fe hl
   refine hfin (K' := fun σ' => σ' = σE.put o.dst r) (t σE _ hsame rfl) hg ?_
   rintro σ' rfl
   refine mk (iw _ _ _) (fun t ht => ?_) (fun t ht => b6 fun e => ht ((tD t hc).2 e)) (fun b hb => ?_) (fun b _ => by simp only [ct, aq]) (fun b l' hl => .inl ⟨l', by rw [aq] at hl; exact hl⟩)
   ·have ht := (tD t hc).1 ht
    rw [e2.get, h, ht, bl, if_pos rfl, bl, if_pos rfl]
   ·have := pf hS hA hj hnj ord1 ord2 hM hb
    unfold ct at this ⊢
    rw [aq, hh, h, aq, this]
  | st hg hs b l row hb h t hstb =>
   have tb : dy G C ops σs j b := ⟨o, hj, .inr (.inl ⟨hc, hs, hstb⟩)⟩
   have hcb := pf hS hA hj hnj ord1 ord2 hM tb
   have hfr : lk σE.heap b = some (false, l) := by
    have h1 := hcb
    unfold ct at h1
    rw [hb] at h1
    simp only [Option.map_some, Option.map_eq_some_iff] at h1
    obtain ⟨y, hy, e⟩ := h1
    obtain ⟨fr, l3⟩ := y
    cases fr with
    | false => rw [hy, ← e]
    | true =>
     exfalso
     refine hM.fl j (Nat.le_of_lt hjs) b (fun i x hx hlx hL => ?_) l hb l3 hy
     rcases Nat.lt_trichotomy i j with hij | hij | hij
     ·exact hij
     ·subst hij; exact absurd hL hnj
     ·exact absurd hL (ord2 i x hij hx (l8 hs (si hlx.2.1)).2)
   refine hfin (K' := fun σ' => σ' = σE.wr b row) (t σE _ hsame hfr rfl) hg ?_
   rintro σ' rfl
   have hd := (cy hs).2.1
   refine mk rfl (fun t ht => by have ht := (tD t hc).1 ht; rw [hd] at ht; cases ht) (fun _ _ => rfl) (fun b' hb' => ?_) (fun b' hb' => ?_) (fun b' l' hl => ?_)
   ·have h1 := pf hS hA hj hnj ord1 ord2 hM hb'
    unfold ct at h1 ⊢
    rw [hh, h, ng, ng]
    split
    ·rename_i e; subst e
     rw [hfr, hb]
    ·exact h1
   ·unfold ct
    rw [ng, if_neg]
    rintro rfl
    exact hb' tb
   ·rw [ng] at hl
    split at hl
    ·rename_i e; subst e
     rw [hfr] at hl; cases hl
    ·exact .inl ⟨l', hl⟩
  | val hg hk hlt r h t =>
   refine hfin (K' := fun σ' => σ' = σE.put o.dst r) (t σE _ hsame (fun x hx b hr fr l hl => wi hst hS hA hj hnj ord1 ord2 hcl hrel hM (by rw [hk]; decide) (ak5 (by rw [hk]; decide)) hlt x hx b hr (fun h => by rw [hc] at h; cases h) fr l hl) rfl) hg ?_
   rintro σ' rfl
   refine mk (iw _ _ _) (fun t ht => ?_) (fun t ht => b6 fun e => ht ((tD t hc).2 e)) (fun b hb => ?_) (fun b _ => by simp only [ct, aq]) (fun b l' hl => .inl ⟨l', by rw [aq] at hl; exact hl⟩)
   ·have ht := (tD t hc).1 ht
    rw [e2.get, h, ht, bl, if_pos rfl, bl, if_pos rfl]
   ·have := pf hS hA hj hnj ord1 ord2 hM hb
    unfold ct at this ⊢
    rw [aq, hh, h, aq, this]
  | new hg hk d hd r l hf h t =>
   have td : dy G C ops σs j d := ⟨o, hj, .inr (.inr ⟨hc, hk, hd, hg⟩)⟩
   refine hfin (K' := fun σ' => σ' = (σE.new d l).put (some d) r) (t σE _ hsame (aj0 hS hj hnj ord1 ord2 hM hk hd hf) rfl) hg ?_
   rintro σ' rfl
   refine mk (iw _ _ _) (fun t ht => ?_) (fun t ht => ?_) (fun b hb => ?_) (fun b hb => ?_) (fun b l' hl => .inl ?_)
   ·have ht := (tD t hc).1 ht
    rw [hd] at ht; cases ht
    rw [e2.get, h, bl, if_pos rfl, bl, if_pos rfl]
   ·have ht : o.dst ≠ some t := fun e => ht ((tD t hc).2 e)
    rw [b6 (by rw [← hd]; exact ht)]; rfl
   ·have hcb := pf hS hA hj hnj ord1 ord2 hM hb
    unfold ct at hcb ⊢
    rw [hh, h]
    simp only [aq, St.new, lk]
    split
    ·rfl
    ·exact hcb
   ·have hbd : ¬ d = b := fun e => hb (e ▸ td)
    show (lk _ _).map _ = (lk _ _).map _
    simp only [aq, St.new, lk]
    rw [if_neg hbd]
   ·simp only [aq, St.new, lk] at hl
    split at hl
    ·cases hl
    ·exact ⟨l', hl⟩
  | call hg hk fresh r bs hb hbr h t =>
   refine hfin (K' := fun σ' => σ' = (if fresh then σE else σE.freeze bs).put o.dst r) (t σE _ hsame (fun x hx b hr fr l hl => wi hst hS hA hj hnj ord1 ord2 hcl hrel hM (by rw [hk]; decide) (ak5 (by rw [hk]; decide)) (si hk) x hx b hr (fun h => by rw [hc] at h; cases h) fr l hl) rfl) hg ?_
   rintro σ' rfl
   have hctf : ∀ b, ct ((if fresh then σE else σE.freeze bs).put o.dst r) b = ct σE b := fun b => by
    simp only [ct, aq]
    cases fresh
    ·simp only [Bool.false_eq_true, if_false, cx, Option.map_map]; rfl
    ·rfl
   refine mk ?_ (fun t ht => ?_) (fun t ht => ?_) (fun b hb => ?_) (fun b _ => hctf b) (fun b l' hl => ?_)
   ·rw [iw]; cases fresh
    ·exact ny _ _
    ·rfl
   ·have ht := (tD t hc).1 ht
    rw [e2.get, h, ht, bl, if_pos rfl, bl, if_pos rfl]
   ·have ht : o.dst ≠ some t := fun e => ht ((tD t hc).2 e)
    rw [b6 ht]; cases fresh
    ·exact jd _ _ _
    ·rfl
   ·have h1 := pf hS hA hj hnj ord1 ord2 hM hb
    rw [hctf b, h1]
    unfold ct
    rw [hh, h, aq]
    cases fresh
    ·simp only [Bool.false_eq_true, if_false, cx, Option.map_map]; rfl
    ·rfl
   ·rw [aq] at hl
    cases fresh with
    | true => exact .inl ⟨l', hl⟩
    | false =>
     simp only [Bool.false_eq_true, if_false, cx, Option.map_eq_some_iff] at hl
     obtain ⟨y, hy, e⟩ := hl
     obtain ⟨fr, l2⟩ := y
     simp only [Prod.mk.injEq] at e
     obtain ⟨e3, rfl⟩ := e
     cases fr with
     | true => exact .inl ⟨l2, hy⟩
     | false =>
      simp only [Bool.false_or, List.contains_iff_mem] at e3
      refine .inr ⟨⟨hc, hk, hbr b e3⟩, ?_⟩
      rw [hh, h, aq]
      simp only [Bool.false_eq_true, if_false, cx]
      cases hq : lk (σs j).heap b with
      | none => obtain ⟨fr', ds, hds⟩ := hb b e3; rw [hq] at hds; cases hds
      | some y =>
       obtain ⟨fr, l3⟩ := y
       exact ⟨l3, by simp [e3]⟩
  | wr hg hk hss hn mono keys fd t =>
   have := hw hk
   rw [hss] at this; cases this
theorem yz (hT : bw P T) (hst : ∀ i o, ops[i]? = some o → jj P G T C ops i o (σs i) (σs (i + 1))) (hS : Stat T C ops) (hA : aai G C ops σs) (hN : ∀ m, m ≤ ops.size → NR C (σs m))
  (hd : ∀ o ∈ ops.toList, ∀ d, o.dst = some d → d < (σs 0).n) {Q : Exit → Act → World → Prop}
  (hQ : ∀ a w σ' β S, Rel G w0 M S0 σ' a w β S → Eqv σ' (σs ops.size) → Q .normal a w) :
  ∀ (fuel : Nat) (listed : Array Bool) (a : Act) (w : World) (σE : St) (β : Own) (S : Imm), listed.size = ops.size → jo ops.size listed = fuel →
   (∀ k o, listed.getD k false = true → ops[k]? = some o → ∀ p ∈ bq o, listed.getD p false = true) →
   Rel G w0 M S0 σE a w β S → cn G C ops σs (fun i => listed.getD i false = true) σE → wpAny P .any ops Q fuel listed a w := by
 have hdone : ∀ (listed : Array Bool) (a : Act) (w : World) (σE : St) (β : Own) (S : Imm), listed.size = ops.size → Rel G w0 M S0 σE a w β S → cn G C ops σs (fun i => listed.getD i false = true) σE →
   Region.ready .any ops listed = [] → Q .normal a w := by
  intro listed a w σE β S hsz hrel hM hnil
  have hall : ∀ i, i < ops.size → listed.getD i false = true := by
   intro i
   induction i using Nat.strongRecOn with
   | _ i ih =>
    intro hi
    cases hl : listed.getD i false with
    | true => rfl
    | false =>
     exfalso
     have : i ∈ Region.ready .any ops listed := j7.2 ⟨hi, by rw [j0 (by omega)]; exact hl, fun o ho p hp => by
      have hlt := (hS.sp i o ho).1 p hp
      exact ih p hlt (by omega)⟩
     rw [hnil] at this
     cases this
  refine hQ a w σE β S hrel ⟨hM.n.trans (adb hst (Nat.le_refl _)).symm, fun t => hM.get t _ (Nat.le_refl _) fun i hi _ => ⟨fun _ => hi, fun _ => hall i hi⟩, fun b => hM.ct b _ (Nat.le_refl _) fun i hi _ => ⟨fun _ => hi, fun _ => hall i hi⟩, fun b l hl => ?_⟩
  have h1 := hM.ct b _ (Nat.le_refl _) fun i hi _ => ⟨fun _ => hi, fun _ => hall i hi⟩
  have h2 := hM.fl _ (Nat.le_refl _) b (fun i x hx _ _ => (Array.getElem?_eq_some_iff.1 hx).1) l hl
  unfold ct at h1
  rw [hl] at h1
  simp only [Option.map_some, Option.map_eq_some_iff] at h1
  obtain ⟨y, hy, e⟩ := h1
  obtain ⟨fr, l3⟩ := y
  cases fr with
  | true => exact absurd hy (h2 l3)
  | false => exact ⟨l3, hy⟩
 intro fuel
 induction fuel with
 | zero =>
  intro listed a w σE β S hsz hu hcl hrel hM
  have hnil : Region.ready .any ops listed = [] := by
   refine List.eq_nil_iff_forall_not_mem.2 fun i hi => ?_
   obtain ⟨h1, h2, _⟩ := j7.1 hi
   have : i ∈ (List.range ops.size).filter fun i => !listed.getD i false := List.mem_filter.2 ⟨List.mem_range.2 h1, by rw [← j0 (by omega), h2]; rfl⟩
   unfold jo at hu
   rw [List.length_eq_zero_iff.1 hu] at this
   cases this
  exact ⟨hnil, hdone listed a w σE β S hsz hrel hM hnil⟩
 | succ fuel ih =>
  intro listed a w σE β S hsz hu hcl hrel hM
  refine ⟨hdone listed a w σE β S hsz hrel hM, fun i hi => ?_⟩
  obtain ⟨h1, h2, h3⟩ := j7.1 hi
  rw [j0 (by omega)] at h2
  obtain ⟨o, ho⟩ : ∃ o, ops[i]? = some o := ⟨ops[i], by simp [h1]⟩
  refine wy (L := fun i => listed.getD i false = true) hT hst hS hA hN hcl ho (by rw [h2]; simp) (h3 o ho) (fun d hd' => by rw [hM.n]; exact hd o (aem ho) d hd') hrel hM ?_
  intro a' w' σ' β' S' hrel' hM'
  refine ih (listed.setIfInBounds i true) a' w' σ' β' S' (by simp [hsz]) (by have := rl h1 hsz h2; omega) ?_ hrel' ?_
  ·intro k o' hk ho' p hp
   rw [l7 (by omega)] at hk ⊢
   rcases hk with hk | rfl
   ·exact .inl (hcl k o' hk ho' p hp)
   ·exact .inl (h3 o' ho' p hp)
  ·have : (fun k => (listed.setIfInBounds i true).getD k false = true) = fun k => listed.getD k false = true ∨ k = i := by
    funext k
    exact propext (l7 (by omega))
   rw [this]
   exact hM'
theorem amo {x : A} {mv : List Nat} (hm : (mv.all fun b => C.V.contains b) = true) (h : C.V = [] ∨ x.nr C.V = true) : x.kl mv = x := by
 rcases h with h | h
 ·have : mv = [] := by
   cases mv with
   | nil => rfl
   | cons b mv => rw [h] at hm; simp at hm
  rw [this, vr]
 ·exact akx (fun b hb => List.all_eq_true.1 hm b (by simpa using hb)) h
theorem als {l : List A} {mv : List Nat} (hm : (mv.all fun b => C.V.contains b) = true) (h : C.V = [] ∨ A.nrs C.V l = true) : A.kls mv l = l := by
 rcases h with h | h
 ·have : mv = [] := by
   cases mv with
   | nil => rfl
   | cons b mv => rw [h] at hm; simp at hm
  rw [this, vr.kls_nil]
 ·exact vt (fun b hb => List.all_eq_true.1 hm b (by simpa using hb)) h
theorem aej {V : List Nat} {b : Nat} (hb : V.contains b = true) {x : A} (h : x.nr V = true) : x.kill b = x := by
 have key : (∀ x : A, x.nr V = true → x.kill b = x) ∧ ∀ l : List A, A.nrs V l = true → A.ew b l = l := by
  refine ⟨fun x => ?_, fun l => ?_⟩
  ·exact kn1 hb x
  ·exact kn2 hb l
 exact key.1 x h
where
 kn1 {V : List Nat} {b : Nat} (hb : V.contains b = true) : ∀ x : A, x.nr V = true → x.kill b = x
  | .d x, _ => rfl
  | .elem x, _ => rfl
  | .ptr c o, h => by
   simp only [A.nr, Bool.not_eq_true'] at h
   have : ¬ c = b := fun e => by rw [e, hb] at h; cases h
   simp only [A.kill, this, if_false]
  | .tptr c t n, h => by
   simp only [A.nr, Bool.not_eq_true'] at h
   have : ¬ c = b := fun e => by rw [e, hb] at h; cases h
   simp only [A.kill, this, if_false]
  | .town c n e, h => by
   simp only [A.nr, Bool.not_eq_true'] at h
   have : ¬ c = b := fun e => by rw [e, hb] at h; cases h
   simp only [A.kill, this, if_false]
  | .own c o n s, h => by
   simp only [A.nr, Bool.not_eq_true'] at h
   have : ¬ c = b := fun e => by rw [e, hb] at h; cases h
   simp only [A.kill, this, if_false]
  | .agg l, h => by simp only [A.nr] at h; simp only [A.kill, kn2 hb l h]
  | .tup l, h => by simp only [A.nr] at h; simp only [A.kill, kn2 hb l h]
  | .fn f l, h => by simp only [A.nr] at h; simp only [A.kill, kn2 hb l h]
 kn2 {V : List Nat} {b : Nat} (hb : V.contains b = true) : ∀ l : List A, A.nrs V l = true → A.ew b l = l
  | [], _ => rfl
  | x :: l, h => by
   simp only [A.nrs, Bool.and_eq_true] at h
   simp only [A.ew, kn1 hb x h.1, kn2 hb l h.2]
theorem ack {hp : Nat → Option (Bool × List A)} {sz : Nat} {x : A} {K : Nat → List D → Prop} (h : ei hp sz x K) :
  ∃ n l, K n l ∧ ∀ (hp' : Nat → Option (Bool × List A)) (K' : Nat → List D → Prop), (∀ b, cb x b → ∀ fr l, hp b = some (fr, l) → ∃ fr', hp' b = some (fr', l)) → K' n l → ei hp' sz x K' := by
 unfold ei at h
 split at h
 ·obtain ⟨h1, h2⟩ := h
  exact ⟨_, _, h2, fun hp' K' _ h' => ⟨h1, h'⟩⟩
 ·exact ⟨_, _, h, fun hp' K' _ h' => h'⟩
 ·obtain ⟨h1, h2⟩ := h
  exact ⟨_, _, h2, fun hp' K' _ h' => ⟨h1, h'⟩⟩
 ·rename_i b o n sz'
  split at h
  ·rename_i fr l hl
   obtain ⟨ds, hds, h2, h3, h4⟩ := h
   refine ⟨_, _, h4, fun hp' K' hh h' => ?_⟩
   obtain ⟨fr', hl'⟩ := hh b rfl fr l hl
   simp only [ei, hl']
   exact ⟨ds, hds, h2, h3, h'⟩
  ·exact h.elim
 ·exact h.elim
theorem gw (σ : St) (b c : Nat) (row : List A) : lk ((σ.kill b).wr b row).heap c = if c = b then (lk σ.heap c).map fun x => (x.1, row) else (lk σ.heap c).map fun x => (x.1, A.ew b x.2) := by
 rw [ng]
 simp only [St.kill, dp, Option.map_map]
 split <;> rfl
theorem agh (hT : bw P T) {i : Nat} {σ σg : St} {K : A → St → Prop} (hN : NR C σ) (hc : isO C i = true) (hg : bg ops o σg) (e1 : Eqv σg σ) (hh : σg.heap = σ.heap) (h : ako P G T C σg o.dst o.op K) :
  ∃ r τ, K r τ ∧ jj P G T C ops i o σ (τ.put o.dst r) := by
 obtain ⟨n, env, heap⟩ := σg
 obtain ⟨dst, op, type, pos, after, guard⟩ := o
 have hgσ : bg ops ⟨dst, op, type, pos, after, guard⟩ σ := by
  rcases hg with hg | ⟨k, want, g, h1, h2, h3⟩
  ·exact .inl hg
  ·exact .inr ⟨k, want, g, h1, h2, by rw [← e1.get]; exact h3⟩
 have hNg : ∀ t, t ∉ C.ps → C.V = [] ∨ (σ.get t).nr C.V = true := fun t ht => by
  rcases hN with e | e
  ·exact .inl e
  ·exact .inr (e.1 t ht)
 simp only [ako] at h
 split at h
 ·rename_i c
  obtain ⟨callee, args, at_⟩ := c
  simp only at h
  have hmem : ∀ x ∈ args.toList, x ∈ (Op.call ⟨callee, args, at_⟩).operands := fun x hx => by
   simp only [Op.operands, Call.operands]
   cases callee <;> simp <;> first | exact .inr (by simpa using hx) | simpa using hx
  split at h
  ·split at h
   rotate_left
   ·exact h.elim
   rename_i f
   obtain ⟨hs, ρ, ν, rR, houtR, ha, hi, hcr, hw, hr, ho, hk⟩ := h
   rename_i cargs hin r hout
   have hh : heap = σ.heap := hh
   subst hh
   have hok := hcr
   simp only [n9, Bool.and_eq_true, List.all_eq_true] at hok
   obtain ⟨⟨⟨⟨⟨⟨⟨⟨n1, n2⟩, k1⟩, k2⟩, k3⟩, k4⟩, n3⟩, g1⟩, g2⟩ := hok
   simp only [Bool.and_eq_true] at hw
   obtain ⟨⟨⟨w1, w2⟩, w3⟩, w4⟩ := hw
   have keys : ∀ x ∈ hout, x.1 ∈ (ρ ++ ν).map (·.1) := fun x hx => by simpa using k3 x.1 (List.mem_map.2 ⟨x, hx, rfl⟩)
   have hkey : ∀ b, ((ρ ++ ν).map (·.2)).contains b = true → ∃ b', (b', b) ∈ ρ ++ ν := fun b hb => by
    obtain ⟨x, hx, rfl⟩ := List.mem_map.1 (List.contains_iff_mem.1 hb)
    exact ⟨x.1, hx⟩
   have htgW : ∀ b, ((ρ ++ ν).map (·.2)).contains b = true → C.W.contains b = true := fun b hb => List.all_eq_true.1 w1 b (List.contains_iff_mem.1 hb)
   have hWtg : ∀ b, C.W.contains b = true → ((ρ ++ ν).map (·.2)).contains b = false → lk σ.heap b = none := fun b hb hn => by
    have := List.all_eq_true.1 w2 b (List.contains_iff_mem.1 hb)
    rw [hn] at this
    have this : (lk σ.heap b).isNone = true := by simpa using this
    cases e : lk σ.heap b with
    | none => rfl
    | some y => rw [e] at this; cases this
   have hlkR : ∀ b b', (b', b) ∈ ρ ++ ν → lk houtR b = (lk hout b').map fun x => (x.1, A.lj (ρ ++ ν) x.2) := fun b b' hm => by rw [← ho]; exact ug n1 n2 keys hm
   have hnone : ∀ b, ((ρ ++ ν).map (·.2)).contains b = false → lk houtR b = none := fun b hb => by
    rw [← ho]; exact o8 keys fun h => by rw [List.contains_iff_mem.2 h] at hb; cases hb
   have hfl : ∀ b l, lk houtR b ≠ some (true, l) := fun b l hl => by
    cases hb : ((ρ ++ ν).map (·.2)).contains b with
    | false => rw [hnone b hb] at hl; cases hl
    | true =>
     obtain ⟨b', hm⟩ := hkey b hb
     rw [hlkR b b' hm] at hl
     simp only [Option.map_eq_some_iff] at hl
     obtain ⟨y, hy, e⟩ := hl
     have := List.all_eq_true.1 w4 _ (gr hy)
     simp only [Prod.mk.injEq] at e
     rw [e.1] at this; cases this
   have hkk : ∀ b, ((ρ ++ ν).map (·.2)).contains b = true → lk houtR b ≠ none := fun b hb => by
    obtain ⟨b', hm⟩ := hkey b hb
    rw [hlkR b b' hm]
    have : b' ∈ hout.map (·.1) := by simpa using k4 b' (List.mem_map.2 ⟨_, hm, rfl⟩)
    obtain ⟨x, hx⟩ := gb this
    rw [hx]; simp
   have hlive : ∀ b l, ((ρ ++ ν).map (·.2)).contains b = true → lk σ.heap b ≠ some (true, l) := fun b l hb hl => by
    obtain ⟨b', hm⟩ := hkey b hb
    rcases List.mem_append.1 hm with hm | hm
    ·have hb' : b' ∈ hin.map (·.1) := by simpa using k2 b' (List.mem_map.2 ⟨_, hm, rfl⟩)
     obtain ⟨x, hx⟩ := gb hb'
     have := (nj.get hi (b := b') (fr := x.1) (l := x.2) hx).1
     have hρ1 : fg (ρ.map (·.1)) = true := by
      have pre : ∀ (l l2 : List Nat), fg (l ++ l2) = true → fg l = true := by
       intro l l2 hl
       induction l with
       | nil => rfl
       | cons x l ih =>
        simp only [List.cons_append, fg, Bool.and_eq_true, Bool.not_eq_true'] at hl ⊢
        refine ⟨?_, ih hl.2⟩
        cases hx : l.contains x with
        | false => rfl
        | true =>
         have : (l ++ l2).contains x = true := by simp only [List.contains_iff_mem] at hx ⊢; exact List.mem_append_left _ hx
         rw [this] at hl; cases hl.1
      exact pre _ _ (by rw [← List.map_append]; exact n1)
     rw [adu hρ1 hm, hl] at this
     simp only [Option.some.injEq, Prod.mk.injEq] at this
     exact absurd this.1 (by decide)
    ·have := (g2 _ hm).2
     rw [hl] at this; cases this
   have hlka : ∀ (hp : Hp) b, lk (houtR ++ jl ((ρ ++ ν).map (·.2)) hp) b = eff ((ρ ++ ν).map (·.2)) houtR hp b := fun hp b => by
    rw [zp, nu]
    unfold eff
    cases hb : ((ρ ++ ν).map (·.2)).contains b with
    | false => rw [hnone b hb]; rfl
    | true =>
     have := hkk b hb
     cases e : lk houtR b with
     | none => exact absurd e this
     | some y => simp
   have hget : ∀ (τ : St) (hp : Hp) t, (t ∉ C.ps → C.V = [] ∨ (τ.get t).nr C.V = true) → ∀ r, (St.put ⟨τ.n, klE (fx ρ) τ.env, hp⟩ dst r).get t = pG C dst r (fun t => (τ.get t).kl (fx ρ)) τ t := fun τ hp t ht r => by
    have e0 : St.get ⟨τ.n, klE (fx ρ) τ.env, hp⟩ t = (τ.get t).kl (fx ρ) := by
     unfold St.get
     simp only [zk]
     cases lk τ.env t <;> rfl
    have e1 : ¬ dst = some t → St.get ⟨τ.n, klE (fx ρ) τ.env, hp⟩ t = pG C dst r (fun t => (τ.get t).kl (fx ρ)) τ t := fun hne => by
     unfold pG
     rw [if_neg hne, e0]
     split
     ·rfl
     ·rename_i hp
      exact amo w3 (ht (by simpa using hp))
    cases dst with
    | none => exact e1 (by simp)
    | some d =>
     rw [bl]
     by_cases e : d = t
     ·rw [if_pos e]; unfold pG; rw [if_pos (by rw [e])]
     ·rw [if_neg e]; exact e1 (fun h => e (by cases h; rfl))
   have heapW : ∀ (τ : St) b, (C.W.contains b = true → lk τ.heap b = lk σ.heap b) → lk (houtR ++ jl ((ρ ++ ν).map (·.2)) τ.heap) b = pH C (fun b => if ((ρ ++ ν).map (·.2)).contains b then lk houtR b else none) τ b := fun τ b hτ => by
    rw [hlka]
    unfold eff pH
    cases hb : ((ρ ++ ν).map (·.2)).contains b with
    | true =>
     rw [htgW b hb]
     show lk houtR b = (if ((ρ ++ ν).map (·.2)).contains b = true then lk houtR b else none)
     rw [if_pos hb]
    | false =>
     cases hbW : C.W.contains b with
     | true =>
      rw [hτ hbW, hWtg b hbW hb]
      show none = (if ((ρ ++ ν).map (·.2)).contains b = true then lk houtR b else none)
      rw [if_neg (by rw [hb]; decide)]
     | false => rfl
   refine ⟨rR, _, hk, .own hc hgσ rR (fun t => (σ.get t).kl (fx ρ)) (fun b => if ((ρ ++ ν).map (·.2)).contains b then lk houtR b else none) ?_ ?_ ?_ ?_ ?_ ?_ ?_⟩
   ·rw [iw]; exact e1.n
   ·intro t
    have := hget ⟨n, env, σ.heap⟩ (houtR ++ jl ((ρ ++ ν).map (·.2)) σ.heap) t (fun ht => by rw [e1.get]; exact hNg t ht) rR
    rw [this]
    unfold pG
    simp only [e1.get]
   ·intro b
    rw [aq]
    exact heapW σ b (fun _ => rfl)
   ·intro b l hl
    have hl : (if ((ρ ++ ν).map (·.2)).contains b = true then lk houtR b else none) = some (true, l) := hl
    split at hl
    ·exact hfl b l hl
    ·cases hl
   ·intro b l hb hl
    cases e : ((ρ ++ ν).map (·.2)).contains b with
    | true => exact hlive b l e hl
    | false => rw [hWtg b (by simpa using hb) e] at hl; cases hl
   ·intro b hb hl
    cases e : ((ρ ++ ν).map (·.2)).contains b with
    | true =>
     rw [if_pos rfl]; exact hkk b e
    | false => exact absurd (hWtg b (by simpa using hb) e) hl
   ·intro σ' hsm hdst hP hW _ hNR w0 M S0 a w β S hrel Q next hnext
    have hargs : args.toList.map (σ'.ev G) = args.toList.map (St.ev G ⟨n, env, σ.heap⟩) := List.map_congr_left fun x hx => by
     rw [hsm x (hmem x hx)]
     exact (e1.ev x).symm
    have hin' : nj (p9 σ'.heap []) ρ hin := by
     show nj σ'.heap ρ hin
     have hin0 : ∀ (h : Hp), nj σ.heap ρ h → (∀ x ∈ h, rn ρ x.1 ∈ C.W) → nj σ'.heap ρ h := by
      intro h
      induction h with
      | nil => intro _ _; exact trivial
      | cons y h ih =>
       intro hy hm
       obtain ⟨b, fr, l⟩ := y
       simp only [nj] at hy ⊢
       exact ⟨⟨by rw [hW _ (hm (b, fr, l) (List.mem_cons_self ..))]; exact hy.1.1, hy.1.2⟩, ih hy.2 fun x hx => hm x (List.mem_cons_of_mem _ hx)⟩
     refine hin0 hin hi fun x hx => ?_
     have hx1 : x.1 ∈ ρ.map (·.1) := List.contains_iff_mem.1 (k1 x.1 (List.mem_map.2 ⟨x, hx, rfl⟩))
     have hm := sb hx1
     have : rn ρ x.1 ∈ (ρ ++ ν).map (·.2) := List.mem_map.2 ⟨_, List.mem_append_left _ hm, rfl⟩
     simpa using List.all_eq_true.1 w1 _ this
    have hcr' : n9 ρ ν σ'.heap (hin.map (·.1)) (hout.map (·.1)) = true := by
     simp only [n9, Bool.and_eq_true, List.all_eq_true] at hcr ⊢
     refine ⟨hcr.1, fun x hx => ⟨(hcr.2 x hx).1, ?_⟩⟩
     have hxW : x.2 ∈ C.W := by
      have : x.2 ∈ (ρ ++ ν).map (·.2) := List.mem_map.2 ⟨x, List.mem_append_right _ hx, rfl⟩
      simpa using List.all_eq_true.1 w1 _ this
     rw [hW x.2 hxW]; exact (hcr.2 x hx).2
    refine sv hrel (o := ⟨dst, .call ⟨.value (.func f), args, at_⟩, type, pos, after, guard⟩) rfl
     (K := fun r τ => r = rR ∧ τ = ⟨σ'.n, klE (fx ρ) σ'.env, houtR ++ jl ((ρ ++ ν).map (·.2)) (klH (fx ρ) (p9 σ'.heap []))⟩)
     ⟨hs, ρ, ν, rR, houtR, [], by rw [hargs]; exact afc ha rfl, hin', hcr', hr, ho, rfl, rfl⟩ Q next ?_
    rintro r2 τ v w' β' S' ⟨rfl, rfl⟩ hrel2 hR hn
    have hput := hrel2.put hR (fun d hd => hdst d hd)
    have hrows : ∀ b f l, ((ρ ++ ν).map (·.2)).contains b = false → lk σ'.heap b = some (f, l) → A.kls (fx ρ) l = l := fun b f l hb hl => by
     refine als w3 ?_
     rcases hNR with e | ⟨_, e⟩
     ·exact .inl e
     ·by_cases hbW : b ∈ C.W
      ·rw [hW b hbW, hWtg b (by simpa using hbW) hb] at hl; cases hl
      ·exact .inr (e b f l hbW hl)
    have hkH : ∀ b, ((ρ ++ ν).map (·.2)).contains b = false → lk (klH (fx ρ) (p9 σ'.heap [])) b = lk σ'.heap b := fun b hb => by
     rw [ac2]
     show (lk σ'.heap b).map _ = _
     cases e : lk σ'.heap b with
     | none => rfl
     | some y =>
      obtain ⟨f', l⟩ := y
      simp only [Option.map_some]
      rw [hrows b f' l hb e]
    let τ' : St := ⟨σ'.n, klE (fx ρ) σ'.env, houtR ++ jl ((ρ ++ ν).map (·.2)) σ'.heap⟩
    have heqh : ∀ b, lk (houtR ++ jl ((ρ ++ ν).map (·.2)) (klH (fx ρ) (p9 σ'.heap []))) b = lk τ'.heap b := fun b => by
     rw [hlka, hlka]
     unfold eff
     cases hb : ((ρ ++ ν).map (·.2)).contains b with
     | true => rfl
     | false => simp only [Bool.false_eq_true, if_false]; exact hkH b hb
    have heq : Eqv ⟨σ'.n, klE (fx ρ) σ'.env, houtR ++ jl ((ρ ++ ν).map (·.2)) (klH (fx ρ) (p9 σ'.heap []))⟩ τ' :=
     ⟨rfl, fun _ => rfl, fun b => by rw [heqh b], fun b l hl => ⟨l, by rw [heqh b]; exact hl⟩⟩
    have hfd : FD (τ'.put dst r2) := fun b l hl => by
     rw [aq] at hl
     have h1 : lk τ'.heap b = some (true, l) := hl
     rw [hlka] at h1
     unfold eff at h1
     split at h1
     ·exact absurd h1 (hfl b l)
     ·exact hrel.fd b l h1
    obtain ⟨S2, hrel3⟩ := hput.ain (heq.put dst r2) hfd
    refine hnext (τ'.put dst r2) _ w' β' S2 hrel3 (iw _ _ _) (fun t => ?_) (fun b => ?_)
    ·have := hget σ' (houtR ++ jl ((ρ ++ ν).map (·.2)) σ'.heap) t (fun ht => by
      rcases hNR with e | e
      ·exact .inl e
      ·exact .inr (e.1 t ht)) r2
     rw [this]
     unfold pG
     split
     ·rfl
     ·split
      ·rename_i hp
       show (σ'.get t).kl (fx ρ) = (σ.get t).kl (fx ρ)
       rw [hP t (by simpa using hp)]
      ·rfl
    ·rw [aq]
     exact heapW σ' b (fun hb => hW b (by simpa using hb))
  ·split at h
   rotate_left
   ·exact h.elim
   obtain ⟨happ, h⟩ := h
   have hh : heap = σ.heap := hh
   subst hh
   have hkk : kindOf (Op.call ⟨.builtin .append, args, at_⟩) = 2 := rfl
   unfold ald at happ
   simp only at happ
   split at happ
   ·rename_i s x hargs
    split at happ
    ·rename_i b o' n' sz es
     simp only [Bool.and_eq_true] at happ
     obtain ⟨⟨hbW, hbV⟩, hfz⟩ := happ
     have hfz : ∀ c l, C.W.contains c = true → lk σ.heap c ≠ some (true, l) := fun c l hc hl => by
      have := List.all_eq_true.1 hfz c (List.contains_iff_mem.1 hc)
      rw [hl] at this; cases this
     have hms : s ∈ (Op.call ⟨.builtin .append, args, at_⟩).operands := hmem s (by rw [hargs]; simp)
     have hmx : x ∈ (Op.call ⟨.builtin .append, args, at_⟩).operands := hmem x (by rw [hargs]; simp)
     simp only [ma, hargs] at h
     split at h
     ·rename_i t t2 s' x' d hcal hat har
      cases har
      unfold bh at h
      split at h
      ·rename_i y hy
       split at h
       ·rename_i e hk
        split at h
        ·rename_i ye hye
         obtain ⟨h1, h⟩ := h
         obtain ⟨m, l, h, tc⟩ := ack h
         obtain ⟨h2, h⟩ := h
         rw [es] at h
         simp only at h
         split at h
         ·rename_i l' hl'
          obtain ⟨h3, h4, h5, ds, hds, row, hrow, hK⟩ := h
          have hl0 : lk σ.heap b = some (false, l') := hl'
          have evs : σ.ev G s = .own b o' n' sz := by rw [← e1.ev s]; exact es
          have hkill : ∀ (τ : St) t, (t ∉ C.ps → C.V = [] ∨ (τ.get t).nr C.V = true) → ∀ r, (((τ.kill b).wr b row).put (some d) r).get t = pG C (some d) r (fun t => (τ.get t).kill b) τ t := fun τ t ht r => by
           rw [bl]
           unfold pG
           by_cases e : d = t
           ·rw [if_pos e, if_pos (by rw [e])]
           ·rw [if_neg e, if_neg (fun h => e (by cases h; rfl))]
            have e0 : ((τ.kill b).wr b row).get t = (τ.get t).kill b := vn τ b t
            rw [e0]
            split
            ·rfl
            ·rename_i hp
             rcases ht (by simpa using hp) with hV | hV
             ·rw [hV] at hbV; simp at hbV
             ·exact aej hbV hV
          have hheap : ∀ (τ : St) c, NR C τ → (C.W.contains c = true → lk τ.heap c = lk σ.heap c) → lk ((τ.kill b).wr b row).heap c = pH C (fun c => if C.W.contains c then lk ((σ.kill b).wr b row).heap c else none) τ c := fun τ c hNτ hτ => by
           unfold pH
           cases hcW : C.W.contains c with
           | true =>
            rw [gw, hτ hcW]
            show _ = (if C.W.contains c = true then lk ((σ.kill b).wr b row).heap c else none)
            rw [if_pos hcW, gw]
           | false =>
            rw [gw]
            have hne : ¬ c = b := fun e => by rw [e, hbW] at hcW; cases hcW
            rw [if_neg hne]
            cases e : lk τ.heap c with
            | none => rfl
            | some y =>
             obtain ⟨f', r'⟩ := y
             simp only [Option.map_some]
             rcases hNτ with hV | hV
             ·rw [hV] at hbV; simp at hbV
             ·have := (aej.kn2 hbV r' (hV.2 c f' r' (by simpa using hcW) e))
              rw [this]; rfl
          refine ⟨_, _, hK, .own hc hgσ (.own b 0 (n' + m) sz) (fun t => (σ.get t).kill b) (fun c => if C.W.contains c then lk ((σ.kill b).wr b row).heap c else none) ?_ ?_ ?_ ?_ ?_ ?_ ?_⟩
          ·exact e1.n
          ·intro t
           have := hkill ⟨n, env, σ.heap⟩ t (fun ht => by rw [e1.get]; exact hNg t ht) (.own b 0 (n' + m) sz)
           refine this.trans ?_
           unfold pG
           simp only [e1.get]
          ·intro c
           have := hheap σ c hN (fun _ => rfl)
           rw [← this]
           rw [aq, gw, gw]
          ·intro c l hl
           have hl : (if C.W.contains c = true then lk ((σ.kill b).wr b row).heap c else none) = some (true, l) := hl
           split at hl
           ·rename_i hcW
            rw [gw] at hl
            cases e : lk σ.heap c with
            | none => rw [e] at hl; split at hl <;> cases hl
            | some y =>
             obtain ⟨f', r'⟩ := y
             have : f' = false := by
              cases f' with
              | false => rfl
              | true => exact absurd e (hfz c r' hcW)
             rw [e, this] at hl
             split at hl <;> cases hl
           ·cases hl
          ·exact fun c l hcW => hfz c l (by simpa using hcW)
          ·intro c hcW hne
           show (if C.W.contains c = true then lk ((σ.kill b).wr b row).heap c else none) ≠ none
           rw [if_pos (by simpa using hcW), gw]
           cases e : lk σ.heap c with
           | none => exact absurd e hne
           | some y => split <;> simp
          ·intro σ' hsm hdst hP hW hRe hNR w0 M S0 a w β S hrel Q next hnext
           have hs' : σ'.ev G s = .own b o' n' sz := by rw [hsm s hms]; exact evs
           have hx' : σ'.ev G x = St.ev G ⟨n, env, σ.heap⟩ x := by rw [hsm x hmx]; exact (e1.ev x).symm
           have hb' : σ'.hp b = some (false, l') := by
            show lk σ'.heap b = _
            rw [hW b (by simpa using hbW)]; exact hl0
           have hev : jc P G T σ' ⟨some d, .call ⟨.builtin .append, args, at_⟩, type, pos, after, guard⟩ (fun st => st = ((σ'.kill b).wr b row).put (some d) (.own b 0 (n' + m) sz)) := by
            simp only [jc, hkk, ma, hat, hargs, bh, hy, hk, hye, hs', hb']
            refine ⟨h1, ?_⟩
            rw [hx']
            refine tc σ'.hp _ (fun c hc fr r hr => ?_) ⟨h2, h3, h4, h5, ds, hds, row, hrow, ?_⟩
            ·by_cases hcW : c ∈ C.W
             ·have hr : lk σ.heap c = some (fr, r) := hr
              exact ⟨fr, by show lk σ'.heap c = _; rw [hW c hcW]; exact hr⟩
             ·have hr : lk σ.heap c = some (fr, r) := hr
              exact hRe x hmx c (by rw [← e1.ev x]; exact hc) hcW fr r hr
            ·rw [St.bu]
           refine Oper.wp_mono ?_ (mh hT hrel hdst hev Q)
           rintro a' w' ⟨σ2, β2, S2, rfl, h6, h7⟩
           refine hnext _ a' w' β2 S2 h6 h7 (fun t => ?_) (fun c => ?_)
           ·rw [hkill σ' t (fun ht => by
             rcases hNR with e | e
             ·exact .inl e
             ·exact .inr (e.1 t ht)) _]
            unfold pG
            split
            ·rfl
            ·split
             ·rename_i hp
              show (σ'.get t).kill b = (σ.get t).kill b
              rw [hP t (by simpa using hp)]
             ·rfl
           ·rw [aq]
            exact hheap σ' c hNR (fun hcW => hW c (by simpa using hcW))
         ·exact h.elim
        ·exact h.elim
       ·exact h.elim
      ·exact h.elim
     ·exact h.elim
    ·cases happ
   ·cases happ
  ·exact h.elim
 ·exact h.elim
theorem oj (hT : bw P T) {Q : St → Prop} (hwr : ∀ (i : Nat) (o : Oper), ops[i]? = some o → isO C i = false → kindOf o.op = 2 → eh o = true) : ∀ (rest : List Oper) (k : Nat) (σ : St), ops.toList.drop k = rest → (∀ o ∈ rest, oi T o.op = true) → NR C σ → mi P G T C ops k rest σ Q →
  ∃ σs : Nat → St, σs k = σ ∧ (∃ τ, Q τ ∧ Eqv (σs (k + rest.length)) τ ∧ Eqv τ (σs (k + rest.length))) ∧ (∀ i, k ≤ i → i ≤ k + rest.length → NR C (σs i)) ∧ ∀ i o, k ≤ i → ops[i]? = some o → jj P G T C ops i o (σs i) (σs (i + 1))
 | [], k, σ, hd, _, hn, h => ⟨fun _ => σ, rfl, ⟨σ, h, Eqv.refl _, Eqv.refl _⟩, fun _ _ _ => hn, fun i o hi ho => by
   have : ops.toList.length ≤ k := List.drop_eq_nil_iff.1 hd
   have h2 : i < ops.size := by
    rcases Nat.lt_or_ge i ops.size with h | h
    ·exact h
    ·simp [Array.getElem?_eq_none h] at ho
   simp at this
   omega⟩
 | o :: rest, k, σ, hd, hs, hn, h => by
  have hok : ops[k]? = some o := by
   have : (ops.toList.drop k)[0]? = some o := by rw [hd]; rfl
   simpa using this
  have hd' : ops.toList.drop (k + 1) = rest := by
   have : (ops.toList.drop k).drop 1 = rest := by rw [hd]; rfl
   rwa [List.drop_drop] at this
  simp only [mi] at h
  obtain ⟨σg, e1, e2, hh, hcase⟩ := ph h
  have key : ∃ τ, jj P G T C ops k o σ τ ∧ NR C τ ∧ mi P G T C ops (k + 1) rest τ Q := by
   have nr : ∀ τ, jj P G T C ops k o σ τ → (C.V = [] ∨ ((∀ d, o.dst = some d → d ∉ C.ps → (τ.get d).nr C.V = true) ∧ ((kindOf o.op = 1 ∨ kindOf o.op = 2) → tp C τ.heap = true))) → NR C τ := fun τ hstep hv => by
    rcases hv with hv | ⟨hv, hw⟩
    ·exact .inl hv
    refine ad9 hn (.inr fun t ht => ?_) ?_
    ·by_cases e : o.dst = some t
     ·exact .inr (hv t e ht)
     ·exact .inl (yn hstep e fun h => ht h.2)
    ·by_cases h1 : kindOf o.op = 1 ∨ kindOf o.op = 2
     ·exact .inr (.inr (hw h1))
     ·exact .inr (.inl fun b hb => abv hstep (fun h => hb h.2) (fun h => h1 (.inr (cy h.2.1).1)) (fun h => h1 (.inl h.2.1)))
   have nr2 : NR C (σg.put o.dst (.d (.tup []))) := by
    refine ad9 hn (.inr fun t ht => ?_) (.inr (.inl fun b hb => by unfold ct; rw [aq, hh]))
    cases e : o.dst with
    | none => exact .inl (e1.get t)
    | some d =>
     rw [bl]
     split
     ·exact .inr rfl
     ·exact .inl (e1.get t)
   rcases hcase with ⟨hg, hy⟩ | ⟨hg, hno⟩
   ·cases hc : C.cs.contains k with
    | true =>
     rw [hc] at hy
     simp only [cond_true] at hy
     obtain ⟨r, τ, h1, h2⟩ := agh hT (ops := ops) (o := o) hn hc hg e1 hh hy
     rw [St.bu] at h1
     obtain ⟨h3, h4⟩ := aiv h1
     exact ⟨_, h2, nr _ h2 h4, h3⟩
    | false =>
     rw [hc] at hy
     simp only [cond_false] at hy
     obtain ⟨τ, h1, h2⟩ := xt (hs o (by simp)) hg hy
     obtain ⟨h3, h4⟩ := aiv h1
     obtain ⟨τ', hstep', e3, e4, hh'⟩ := h2.congr e1 e2 hh
     have hst : jj P G T C ops k o σ τ := .old hc (hwr k o hok hc) ⟨τ', hstep', e4, e3, hh'⟩
     exact ⟨τ, hst, nr _ hst h4, h3⟩
   ·rw [St.bu] at hno
    have hst : jj P G T C ops k o σ (σg.put o.dst (.d (.tup []))) := by
     cases hc : C.cs.contains k with
     | true =>
      refine .skip hc ?_ ?_ (fun t => ?_) (fun b => ?_)
      ·obtain ⟨k, want, g, h1, h2, h3⟩ := hg
       exact ⟨k, want, g, h1, h2, by rw [← e1.get]; exact h3⟩
      ·rw [iw]; exact e1.n
      ·cases o.dst with
       | none => exact e1.get t
       | some d =>
        rw [bl, bl]
        split
        ·rfl
        ·exact e1.get t
      ·rw [aq, hh]
     | false =>
      obtain ⟨τ', hstep', e3, e4, hh'⟩ := (mc.skip (P := P) (T := T) hg rfl : mc P G T ops o σg (σg.put o.dst (.d (.tup [])))).congr e1 e2 hh
      exact .old hc (hwr k o hok hc) ⟨τ', hstep', e4, e3, hh'⟩
    exact ⟨_, hst, nr2, hno⟩
  obtain ⟨τ, hstep, hnr, hrest⟩ := key
  obtain ⟨σs, h0, hQ, hN, hst⟩ := oj hT hwr rest (k + 1) τ hd' (fun o ho => hs o (by simp [ho])) hnr hrest
  refine ⟨fun i => if i ≤ k then σ else σs i, by simp, ?_, fun i h1 h2 => ?_, fun i o' hi ho' => ?_⟩
  ·have e : k + (o :: rest).length = k + 1 + rest.length := by simp; omega
   rw [e]
   simp only [show ¬ (k + 1 + rest.length ≤ k) by omega, if_false]
   exact hQ
  ·by_cases e : i ≤ k
   ·simp only [e, if_true]; exact hn
   ·simp only [e, if_false]
    refine hN i (by omega) ?_
    simp at h2; omega
  ·by_cases e : i = k
   ·subst e
    rw [hok] at ho'; cases ho'
    simp only [Nat.le_refl, if_true, show ¬ (i + 1 ≤ i) by omega, if_false, h0]
    exact hstep
   ·simp only [show ¬ (i ≤ k) by omega, show ¬ (i + 1 ≤ k) by omega, if_false]
    exact hst i o' (by omega) ho'
def aky (G : bj) (C : Cfg) (ops : Array Oper) (τ : St) : Bool := C.fs.all fun i => match ops[i]? with
 | some x => x.op.operands.all fun q => match aa7 (τ.ev G q) with
  | some l => l.all fun b => !C.W.contains b
  | none => false
 | none => true
theorem rj {τ : St} {i : Nat} {x : Oper} (hlp : n7 C ops x = false) (hst : ∀ i o, ops[i]? = some o → jj P G T C ops i o (σs i) (σs (i + 1))) (h : stays ops i = true) (hx : ops[i]? = some x) (he : Eqv (σs ops.size) τ) {q : Operand} (hq : q ∈ x.op.operands) : τ.ev G q = (σs i).ev G q := by
 cases q with
 | tmp t =>
  have h1 := ml hst (a := i) (m := ops.size) (t := t) (Nat.le_of_lt (lt_size hx)) (Nat.le_refl _) (fun k hk hk2 htc => by
   obtain ⟨o, ho, hto⟩ := htc
   rcases hto with hto | ⟨_, hto⟩
   ·exact wx h hx hq k o hk ho hto
   ·rw [r7 (ops := ops) (.inl (r8 hq)) hto] at hlp; cases hlp)
  have h2 := he.get t
  show τ.get t = (σs i).get t
  rw [← h1, h2]
 | _ => rfl
theorem p5 (hT : bw P T) (hm : P.follows .mixedOrders = true) {id : Nat} {σ : St} {dr : Bool} (hok : zy T C σ.n ops dr = true) (hb : tp C σ.heap = true) {Q : Exit → Act → World → Prop} {K : St → Prop}
  (hQ : ∀ a w, py G w0 M S0 σ.n K a w → Q .normal a w) (hrel : Rel G w0 M S0 σ a w β S)
  (h : mi P G T C ops 0 ops.toList ⟨σ.n, klE C.V σ.env, σ.heap⟩ (fun τ => a8 (aky G C ops τ = true) (K τ))) : (Code.region id ops dr).wp P Q a w := by
 obtain ⟨hd, rfl, hS⟩ := abl hok
 have hrel0 : Rel G w0 M S0 ⟨σ.n, klE C.V σ.env, σ.heap⟩ a w β S := by
  refine { hrel with env := ?_ }
  intro t x hx
  have hx : lk (klE C.V σ.env) t = some x := hx
  rw [zk] at hx
  cases e : lk σ.env t with
  | none => rw [e] at hx; cases hx
  | some y =>
   rw [e] at hx
   simp only [Option.map_some, Option.some.injEq] at hx
   rw [← hx]
   exact agl (fun _ _ => rfl) (hrel.env t y e)
 have hn0 : NR C ⟨σ.n, klE C.V σ.env, σ.heap⟩ := by
  simp only [tp, Bool.or_eq_true, List.isEmpty_iff] at hb
  rcases hb with hb | hb
  ·exact .inl hb
  ·refine .inr ⟨fun t _ => ?_, fun b f l hbW hl => ?_⟩
   ·unfold St.get
    simp only [zk]
    cases lk σ.env t with
    | none => rfl
    | some y => exact ak6
   ·have := List.all_eq_true.1 hb _ (gr hl)
    simp only [Bool.or_eq_true] at this
    rcases this with h | h
    ·exact absurd (by simpa using h) hbW
    ·exact h
 obtain ⟨σs, h0, ⟨τ, hK, e1, e2⟩, hN, hst0⟩ := oj hT hS.wr ops.toList 0 _ (by simp) hS.safe hn0 h
 have hst : ∀ i o, ops[i]? = some o → jj P G T C ops i o (σs i) (σs (i + 1)) := fun i o ho => hst0 i o (Nat.zero_le i) ho
 have e1 : Eqv (σs ops.size) τ := by simpa using e1
 have e2 : Eqv τ (σs ops.size) := by simpa using e2
 have hA : aai G C ops σs := by
  intro i x b hf hx hbW ⟨q, hq, hqb⟩
  have h1 := List.all_eq_true.1 hK.p i (by simpa using hf)
  rw [hx] at h1
  have h2 := Array.all_eq_true_iff_forall_mem.1 h1 q hq
  rw [rj (hS.lp i x hf hx) hst (hS.st i hf) hx e1 hq] at h2
  split at h2
  ·rename_i l hl
   have := List.all_eq_true.1 h2 b (qb hl hqb)
   rw [show C.W.contains b = true by simpa using hbW] at this
   cases this
  ·cases h2
 refine wp_region_any hm ?_
 have hdrew : Rel G w0 M S0 ⟨σ.n, klE C.V σ.env, σ.heap⟩ a { w with drawn := w.drawn + 1 } β S := hrel0.olds (fun _ _ => rfl) rfl rfl rfl (Nat.le_refl _) (fun _ _ h => h) (fun _ _ h => .inl h)
 have hnn : (σs 0).n = σ.n := by rw [h0]
 have hfd0 : FD (σs 0) := by
  intro b l hl
  rw [h0] at hl
  exact hrel0.fd b l hl
 rw [← h0] at hdrew
 refine yz hT hst hS hA (fun m hm => hN m (Nat.zero_le m) (by simpa using hm)) (by rw [hnn]; exact hd) ?_ ops.size (Array.replicate ops.size false) a _ (σs 0) β S (by simp) ?_ ?_ hdrew ?_
 ·intro a' w' σ' β' S' hr he
  have he2 : Eqv σ' τ := he.trans e1
  have hfdn : FD (σs ops.size) := by
   have := iz (Q := FD) (a := 0) (fun i o _ ho h => ail (hst i o ho) h) hfd0 ops.size (by omega)
   rwa [Nat.zero_add] at this
  have hfdt : FD τ := by
   intro b l hl
   have hc := e2.ct b
   rw [hl] at hc
   cases hb : lk (σs ops.size).heap b with
   | none => rw [hb] at hc; cases hc
   | some y =>
    obtain ⟨fr, l2⟩ := y
    rw [hb] at hc
    simp only [Option.map_some, Option.some.injEq] at hc
    cases fr with
    | true => rw [hc]; exact hfdn b l2 hb
    | false =>
     obtain ⟨l3, h3⟩ := e2.fl b l2 hb
     rw [hl] at h3; cases h3
  obtain ⟨S2, hrel2⟩ := hr.ain he2 hfdt
  exact hQ a' w' ⟨τ, β', S2, hK.q, hrel2, by rw [e2.n, adb hst (Nat.le_refl _), hnn]⟩
 ·unfold jo
  have : (List.range ops.size).filter (fun i => !(Array.replicate ops.size false).getD i false) = List.range ops.size := by
   refine List.filter_eq_self.2 fun i hi => ?_
   simp [Array.getD_eq_getD_getElem?, Array.getElem?_replicate]
   split <;> rfl
  rw [this]; simp
 ·intro k o hk
  exfalso
  simp [Array.getD_eq_getD_getElem?, Array.getElem?_replicate] at hk
  split at hk <;> cases hk
 ·have : (fun i => (Array.replicate ops.size false).getD i false = true) = fun _ => False := by
   funext i
   simp only [eq_iff_iff, iff_false]
   intro hk
   simp [Array.getD_eq_getD_getElem?, Array.getElem?_replicate] at hk
   split at hk <;> cases hk
  rw [this]
  exact cn.start hst (hN 0 (Nat.le_refl 0) (Nat.zero_le _))
end
end Dw
end Go.Ev
