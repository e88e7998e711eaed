/- Contracts of the given functions, on data. Conditions stand in each theorem. -/
import Derived.Test.YtagjickjfjgfpaaGreatDoorHEvM
set_option linter.unusedSimpArgs false
set_option linter.unusedVariables false
namespace Go.Ev
open Go
section
variable {T : Tab} {P : Program} {G : bb} {rf : Nat → Nat → Bool} {ops : Array Oper} {σs : Nat → St}
def lg (P : Program) (G : bb) (T : Tab) (ops : Array Oper) (o : Oper) (σ τ' : St) : Prop := ∃ τ, uy P G T ops o σ τ ∧ Eqv τ τ' ∧ Eqv τ' τ ∧ τ'.heap = τ.heap
def o7 (ops : Array Oper) (i t : Nat) : Prop := ∃ o, ops[i]? = some o ∧ (o.dst = some t ∨ (kindOf o.op = 2 ∧ ej o = false))
def dz (G : bb) (ops : Array Oper) (σs : Nat → St) (i b : Nat) : Prop := ∃ o, ops[i]? = some o ∧ ((kindOf o.op = 2 ∧ (ej o = true → stb G o (σs i) b)) ∨ (kindOf o.op = 1 ∧ o.dst = some b ∧ a8 ops o (σs i)))
def ct (σ : St) (b : Nat) : Option (List A) := (lk σ.heap b).map (·.2)
theorem qu {o : Oper} {σ : St} (h1 : a8 ops o σ) (h2 : mh ops o σ) : False := by
 obtain ⟨j, want, g, e1, e2, e3⟩ := h2
 rcases h1 with h1 | ⟨j', want', g', e4, e5, e6⟩
 ·rw [h1] at e1; cases e1
 ·rw [e1] at e4
  cases e4
  rw [e2] at e5; cases e5
  rw [e6] at e3
  rcases e3 with e3 | e3
  ·simp only [A.d.injEq, D.bool.injEq] at e3
   cases want <;> cases e3
  ·cases e3
theorem b9 {σ : St} {d : Option Nat} {r : A} {t : Nat} (h : d ≠ some t) : (σ.put d r).get t = σ.get t := by
 cases d with
 | none => rfl
 | some d => rw [bc, if_neg (fun e => h (by rw [e]))]
theorem aq (σ : St) (d : Option Nat) (r : A) : (σ.put d r).heap = σ.heap := by cases d <;> rfl
theorem mq (σ : St) (d : Option Nat) (r : A) : (σ.put d r).n = σ.n := by cases d <;> rfl
theorem wo (σ : St) (b : Nat) (l : List A) (k : Nat) : lk (σ.wr b l).heap k = if k = b then (lk σ.heap k).map fun x => (x.1, l) else lk σ.heap k := ei _ _ _ _
theorem atx {σ : St} {b b' : Nat} {l row : List A} (hl : lk σ.heap b = some (true, l)) : ∃ l', lk (σ.wr b' row).heap b = some (true, l') := by
 rw [wo]; split
 ·rw [hl]; exact ⟨row, rfl⟩
 ·exact ⟨l, hl⟩
theorem atw {σ : St} {b b' : Nat} {row : List A} (hl : lk σ.heap b ≠ none) : lk (σ.wr b' row).heap b ≠ none := by
 rw [wo]; split
 ·intro e; exact hl (by simpa using e)
 ·exact hl
theorem a0g {σ : St} {b b' : Nat} {l' l row : List A} (hb : lk σ.heap b' = some (false, l')) (hl : lk (σ.wr b' row).heap b = some (true, l)) (hf : ∀ l, lk σ.heap b = some (true, l) → ∃ ds : List D, l = ds.map A.d) : ∃ ds : List D, l = ds.map A.d := by
 rw [wo] at hl; split at hl
 ·rename_i e; subst e; rw [hb] at hl; cases hl
 ·exact hf l hl
theorem an4 {o : Oper} {σ τ : St} (h : lg P G T ops o σ τ) {t : Nat} (h1 : o.dst ≠ some t) (h2 : ¬ (kindOf o.op = 2 ∧ ej o = false)) : τ.get t = σ.get t := by
 obtain ⟨τ0, h, _, he, _⟩ := h
 rw [he.get]
 cases h with
 | skip hg h => rw [h, b9 h1]
 | lt hg hl r h t => rw [h, b9 h1]
 | st hg hs b l row hb h t => rw [h]; rfl
 | val hg hk hl r h t => rw [h, b9 h1]
 | new hg hk d hd r l hf h t => rw [h, b9 (by rw [← hd]; exact h1)]; rfl
 | call hg hk fresh r bs hb hbr h t =>
  rw [h, b9 h1]
  cases fresh
  ·exact nj _ _ _
  ·rfl
 | wr hg hk hs => exact absurd ⟨hk, hs⟩ h2
theorem ay6 {o : Oper} {σ τ : St} (h : lg P G T ops o σ τ) : τ.n = σ.n := by
 obtain ⟨τ0, h, _, he, _⟩ := h
 rw [he.n]
 cases h with
 | skip hg h => rw [h, mq]
 | lt hg hl r h t => rw [h, mq]
 | st hg hs b l row hb h t => rw [h]; rfl
 | val hg hk hl r h t => rw [h, mq]
 | new hg hk d hd r l hf h t => rw [h, mq]; rfl
 | call hg hk fresh r bs hb hbr h t =>
  rw [h, mq]
  cases fresh
  ·exact xl _ _
  ·rfl
 | wr hg hk hs hn => exact hn
theorem alc {o : Oper} {σ τ : St} (h : lg P G T ops o σ τ) {b : Nat} (h1 : ¬ (kindOf o.op = 2 ∧ (ej o = true → stb G o σ b))) (h2 : ¬ (kindOf o.op = 1 ∧ o.dst = some b ∧ a8 ops o σ)) : ct τ b = ct σ b := by
 obtain ⟨τ0, h, _, he, hh⟩ := h
 unfold ct
 rw [hh]
 cases h with
 | skip hg h => rw [h, aq]
 | lt hg hl r h t => rw [h, aq]
 | st hg hs b0 l row hb h t hr =>
  rw [h, wo, if_neg]
  rintro rfl
  exact h1 ⟨(c9 hs).1, fun _ => hr⟩
 | val hg hk hl r h t => rw [h, aq]
 | new hg hk d hd r l hf h t =>
  rw [h, aq]
  simp only [St.new, lk]
  rw [if_neg]
  rintro rfl
  exact h2 ⟨hk, hd, hg⟩
 | call hg hk fresh r bs hb hbr h t =>
  rw [h, aq]
  cases fresh
  ·simp only [Bool.false_eq_true, if_false, c8, Option.map_map]; rfl
  ·rfl
 | wr hg hk hs => exact absurd ⟨hk, fun e => by rw [hs] at e; cases e⟩ h1
theorem ajg {o : Oper} {σ τ : St} (h : lg P G T ops o σ τ) {b : Nat} {l : List A} (hl : lk σ.heap b = some (true, l)) : ∃ l', lk τ.heap b = some (true, l') := by
 obtain ⟨τ0, h, _, he, hh⟩ := h
 rw [hh]
 cases h with
 | skip hg h => rw [h, aq]; exact ⟨l, hl⟩
 | lt hg hl' r h t => rw [h, aq]; exact ⟨l, hl⟩
 | st hg hs b' l' row hb h t => rw [h]; exact atx hl
 | val hg hk hl' r h t => rw [h, aq]; exact ⟨l, hl⟩
 | new hg hk d hd r l' hf h t =>
  rw [h, aq]
  simp only [St.new, lk]
  rw [if_neg]
  ·exact ⟨l, hl⟩
  ·rintro rfl
   rw [hl] at hf; cases hf
 | call hg hk fresh r bs hb hbr h t =>
  rw [h, aq]
  cases fresh
  ·simp only [Bool.false_eq_true, if_false, c8, hl]; exact ⟨l, rfl⟩
  ·exact ⟨l, hl⟩
 | wr hg hk hs hn mono keys fd t => exact mono b l hl
theorem ajf {o : Oper} {σ τ : St} (h : lg P G T ops o σ τ) {b : Nat} (hl : lk σ.heap b ≠ none) : lk τ.heap b ≠ none := by
 obtain ⟨τ0, h, _, he, hh⟩ := h
 rw [hh]
 cases h with
 | skip hg h => rw [h, aq]; exact hl
 | lt hg hl' r h t => rw [h, aq]; exact hl
 | st hg hs b' l' row hb h t => rw [h]; exact atw hl
 | val hg hk hl' r h t => rw [h, aq]; exact hl
 | new hg hk d hd r l' hf h t =>
  rw [h, aq]
  simp only [St.new, lk]
  split
  ·simp
  ·exact hl
 | call hg hk fresh r bs hb hbr h t =>
  rw [h, aq]
  cases fresh
  ·simp only [Bool.false_eq_true, if_false, c8]
   intro e; exact hl (by simpa using e)
  ·exact hl
 | wr hg hk hs hn mono keys fd t => exact keys b hl
theorem as9 {o : Oper} {σ τ : St} (h : lg P G T ops o σ τ) (hfd : FD σ) : FD τ := by
 obtain ⟨τ0, h, _, he, hh⟩ := h
 intro b l hl
 rw [hh] at hl
 cases h with
 | skip hg h => rw [h, aq] at hl; exact hfd b l hl
 | lt hg hl' r h t => rw [h, aq] at hl; exact hfd b l hl
 | st hg hs b' l' row hb h t => rw [h] at hl; exact a0g hb hl (hfd b)
 | val hg hk hl' r h t => rw [h, aq] at hl; exact hfd b l hl
 | new hg hk d hd r l' hf h t =>
  rw [h, aq] at hl
  simp only [St.new, lk] at hl
  split at hl
  ·cases hl
  ·exact hfd b l hl
 | call hg hk fresh r bs hb hbr h t =>
  rw [h, aq] at hl
  cases fresh with
  | true => exact hfd b l hl
  | false =>
   simp only [Bool.false_eq_true, if_false, c8, Option.map_eq_some_iff] at hl
   obtain ⟨y, hy, e⟩ := hl
   obtain ⟨fr, l2⟩ := y
   simp only [Prod.mk.injEq] at e
   obtain ⟨e3, rfl⟩ := e
   cases fr with
   | true => exact hfd b l2 hy
   | false =>
    simp only [Bool.false_or, List.contains_iff_mem] at e3
    obtain ⟨fr', ds, hds⟩ := hb b e3
    rw [hy] at hds
    cases hds
    exact ⟨ds, rfl⟩
 | wr hg hk hs hn mono keys fd t => exact fd hfd b l hl
variable (hst : ∀ i o, ops[i]? = some o → lg P G T ops o (σs i) (σs (i + 1)))
include hst
theorem adk {i : Nat} (h : i < ops.size) : ∃ o, ops[i]? = some o := by
 have _ := hst
 exact ⟨ops[i], by simp [h]⟩
theorem m5 {Q : St → Prop} {a : Nat} (hs : ∀ i o, a ≤ i → ops[i]? = some o → Q (σs i) → Q (σs (i + 1))) (ha : Q (σs a)) : ∀ k, a + k ≤ ops.size → Q (σs (a + k))
 | 0, _ => ha
 | k + 1, hk => by
  obtain ⟨o, ho⟩ := adk hst (i := a + k) (by omega)
  exact hs (a + k) o (by omega) ho (m5 hs ha k (by omega))
theorem yy {a m b : Nat} (ham : a ≤ m) (hm : m ≤ ops.size) (h : lk (σs a).heap b ≠ none) : lk (σs m).heap b ≠ none := by
 have := m5 hst (Q := fun σ => lk σ.heap b ≠ none) (a := a) (fun i o _ ho h => ajf (hst i o ho) h) h (m - a) (by omega)
 rwa [show a + (m - a) = m by omega] at this
theorem zf {a m b : Nat} (ham : a ≤ m) (hm : m ≤ ops.size) (h : ∃ l, lk (σs a).heap b = some (true, l)) : ∃ l, lk (σs m).heap b = some (true, l) := by
 have := m5 hst (Q := fun σ => ∃ l, lk σ.heap b = some (true, l)) (a := a) (fun i o _ ho ⟨l, h⟩ => ajg (hst i o ho) h) h (m - a) (by omega)
 rwa [show a + (m - a) = m by omega] at this
theorem apr {m : Nat} (hm : m ≤ ops.size) : (σs m).n = (σs 0).n := by
 have := m5 hst (Q := fun σ => σ.n = (σs 0).n) (a := 0) (fun i o _ ho h => (ay6 (hst i o ho)).trans h) rfl m (by omega)
 rwa [Nat.zero_add] at this
theorem vj {a m t : Nat} (ham : a ≤ m) (hm : m ≤ ops.size) (h : ∀ i, a ≤ i → i < m → ¬ o7 ops i t) : (σs m).get t = (σs a).get t := by
 obtain ⟨k, rfl⟩ : ∃ k, m = a + k := ⟨m - a, by omega⟩
 clear ham
 induction k with
 | zero => rfl
 | succ k ih =>
  have hk := ih (by omega) (fun i h1 h2 => h i h1 (by omega))
  obtain ⟨o, ho⟩ := adk hst (i := a + k) (by omega)
  have hn := h (a + k) (by omega) (by omega)
  rw [← Nat.add_assoc, an4 (hst _ o ho) (fun e => hn ⟨o, ho, .inl e⟩) (fun e => hn ⟨o, ho, .inr e⟩), hk]
theorem adt {a m b : Nat} (ham : a ≤ m) (hm : m ≤ ops.size) (h : ∀ i, a ≤ i → i < m → ¬ dz G ops σs i b) : ct (σs m) b = ct (σs a) b := by
 obtain ⟨k, rfl⟩ : ∃ k, m = a + k := ⟨m - a, by omega⟩
 clear ham
 induction k with
 | zero => rfl
 | succ k ih =>
  have hk := ih (by omega) (fun i h1 h2 => h i h1 (by omega))
  obtain ⟨o, ho⟩ := adk hst (i := a + k) (by omega)
  have hn := h (a + k) (by omega) (by omega)
  rw [← Nat.add_assoc, alc (hst _ o ho) (fun e => hn ⟨o, ho, .inl e⟩) (fun e => hn ⟨o, ho, .inr e⟩), hk]
def Fz (G : bb) (x : Oper) (σ : St) (b : Nat) : Prop := kindOf x.op ≠ 0 ∧ (kindOf x.op = 3 → ab3 G x σ b)
structure cw (G : bb) (ops : Array Oper) (σs : Nat → St) (L : Nat → Prop) (σE : St) : Prop where
 n : σE.n = (σs 0).n
 get : ∀ t m, m ≤ ops.size → (∀ i, i < ops.size → o7 ops i t → (L i ↔ i < m)) → σE.get t = (σs m).get t
 ct : ∀ b m, m ≤ ops.size → (∀ i, i < ops.size → dz G ops σs i b → (L i ↔ i < m)) → Ev.ct σE b = Ev.ct (σs m) b
 fl : ∀ m, m ≤ ops.size → ∀ b, (∀ i x, ops[i]? = some x → Fz G x (σs i) b → L i → i < m) → ∀ l, lk (σs m).heap b = some (false, l) → ∀ l', lk σE.heap b ≠ some (true, l')
variable {L : Nat → Prop} {σE : St} {j : Nat} {o : Oper}
theorem cw.start : cw G ops σs (fun _ => False) (σs 0) := by
 refine ⟨rfl, fun t m hm h => ?_, fun b m hm h => ?_, fun m hm b _ l hl l' h0 => ?_⟩
 ·exact (vj hst (Nat.zero_le m) hm fun i _ hi ht => (h i (by omega) ht).2 hi).symm
 ·exact (adt hst (Nat.zero_le m) hm fun i _ hi ht => (h i (by omega) ht).2 hi).symm
 ·obtain ⟨l2, h2⟩ := zf hst (Nat.zero_le m) hm ⟨l', h0⟩
  rw [hl] at h2; cases h2
omit hst in
theorem mf {i j : Nat} {x o : Oper} {t : Nat} (hx : x.dst = some t ∨ (kindOf x.op = 2 ∧ ej x = false)) (ht : t ∈ o.looksAt ops ∨ o.dst = some t) : jv rf ops i x j o = true := by
 rcases hx with hx | hx
 ·unfold jv
  have : x.apart ops o = false := by
   cases ha : x.apart ops o with
   | false => rfl
   | true =>
    obtain ⟨h1, h2, _⟩ := Oper.apart_spec ha
    rcases ht with ht | ht
    ·exact absurd ht (h1 t hx)
    ·exact absurd ht (h2 t hx)
  simp [this]
 ·exact (kg hx.1 (.inl hx.2)).1
variable (hj : ops[j]? = some o) (hnj : ¬ L j) (ord1 : ∀ i x, i < j → ops[i]? = some x → jv rf ops i x j o = true → L i) (ord2 : ∀ i x, j < i → ops[i]? = some x → jv rf ops i x j o = true → ¬ L i)
include hj hnj ord1 ord2
omit hst in
theorem ajz {t : Nat} (ht : t ∈ o.looksAt ops ∨ o.dst = some t) : ∀ i, i < ops.size → o7 ops i t → (L i ↔ i < j) := by
 rintro i hi ⟨x, hx, hxt⟩
 have hc : jv rf ops i x j o = true := mf hxt ht
 rcases Nat.lt_trichotomy i j with h | h | h
 ·exact ⟨fun _ => h, fun _ => ord1 i x h hx hc⟩
 ·subst h; exact ⟨fun h => absurd h hnj, fun h => absurd h (Nat.lt_irrefl _)⟩
 ·exact ⟨fun hL => absurd hL (ord2 i x h hx hc), fun h' => by omega⟩
omit hst in
theorem al2 (hk : kindOf o.op = 2) (hs : ej o = false) : ∀ i, i < ops.size → (L i ↔ i < j) := by
 intro i hi
 obtain ⟨x, hx⟩ : ∃ x, ops[i]? = some x := ⟨ops[i], by simp [hi]⟩
 have hc : jv rf ops i x j o = true := (kg hk (.inl hs)).2
 rcases Nat.lt_trichotomy i j with h | h | h
 ·exact ⟨fun _ => h, fun _ => ord1 i x h hx hc⟩
 ·subst h; exact ⟨fun h => absurd h hnj, fun h => absurd h (Nat.lt_irrefl _)⟩
 ·exact ⟨fun hL => absurd hL (ord2 i x h hx hc), fun h' => by omega⟩
theorem lt_size : j < ops.size := by
 have _ := hst
 have _ := hnj
 have _ := ord1
 have _ := ord2
 rcases Nat.lt_or_ge j ops.size with h | h
 ·exact h
 ·simp [Array.getElem?_eq_none h] at hj
theorem cw.step (hM : cw G ops σs L σE) (hk : kindOf o.op ≠ 2) {σE' : St} (hn : σE'.n = σE.n) (hget1 : ∀ t, o.dst = some t → σE'.get t = (σs (j + 1)).get t) (hget2 : ∀ t, o.dst ≠ some t → σE'.get t = σE.get t)
  (hct1 : ∀ b, kindOf o.op = 1 ∧ o.dst = some b ∧ a8 ops o (σs j) → Ev.ct σE' b = Ev.ct (σs (j + 1)) b) (hct2 : ∀ b, ¬ (kindOf o.op = 1 ∧ o.dst = some b ∧ a8 ops o (σs j)) → Ev.ct σE' b = Ev.ct σE b)
  (hfl : ∀ b l', lk σE'.heap b = some (true, l') → (∃ l, lk σE.heap b = some (true, l)) ∨ (Fz G o (σs j) b ∧ ∃ l, lk (σs (j + 1)).heap b = some (true, l))) : cw G ops σs (fun i => L i ∨ i = j) σE' := by
 have hjs := lt_size hst hj hnj ord1 ord2
 refine ⟨hn.trans hM.n, fun t m hm h => ?_, fun b m hm h => ?_, fun m hm b h l hl l' h0 => ?_⟩
 ·by_cases ht : o.dst = some t
  ·rw [hget1 t ht]
   have hjm : j < m := (h j hjs ⟨o, hj, .inl ht⟩).1 (.inr rfl)
   refine (vj hst hjm hm fun i h1 h2 htc => ?_).symm
   obtain ⟨x, hx, hxt⟩ := htc
   have hL := (h i (by omega) ⟨x, hx, hxt⟩).2 h2
   rcases hL with hL | hL
   ·exact ord2 i x (by omega) hx (mf hxt (.inr ht)) hL
   ·omega
  ·rw [hget2 t ht]
   refine hM.get t m hm fun i hi htc => ?_
   have := h i hi htc
   have hne : i ≠ j := by
    rintro rfl
    obtain ⟨x, hx, hxt⟩ := htc
    rw [hj] at hx; cases hx
    rcases hxt with hxt | hxt
    ·exact ht hxt
    ·exact hk hxt.1
   exact ⟨fun hL => this.1 (.inl hL), fun hlt => (this.2 hlt).resolve_right hne⟩
 ·by_cases hb : kindOf o.op = 1 ∧ o.dst = some b ∧ a8 ops o (σs j)
  ·rw [hct1 b hb]
   have hjm : j < m := (h j hjs ⟨o, hj, .inr hb⟩).1 (.inr rfl)
   refine (adt hst hjm hm fun i h1 h2 htc => ?_).symm
   obtain ⟨x, hx, hxt⟩ := htc
   have hL := (h i (by omega) ⟨x, hx, hxt⟩).2 h2
   rcases hL with hL | hL
   ·refine ord2 i x (by omega) hx ?_ hL
    rcases hxt with hxt | hxt
    ·exact (kg hxt.1 (.inr (.inl (by rw [hb.1]; decide)))).1
    ·exact mf (t := b) (.inl hxt.2.1) (.inr hb.2.1)
   ·omega
  ·rw [hct2 b hb]
   refine hM.ct b m hm fun i hi htc => ?_
   have := h i hi htc
   have hne : i ≠ j := by
    rintro rfl
    obtain ⟨x, hx, hxt⟩ := htc
    rw [hj] at hx; cases hx
    rcases hxt with hxt | hxt
    ·exact hk hxt.1
    ·exact hb hxt
   exact ⟨fun hL => this.1 (.inl hL), fun hlt => (this.2 hlt).resolve_right hne⟩
 ·rcases hfl b l' h0 with ⟨l2, h2⟩ | ⟨hlt, h2⟩
  ·exact hM.fl m hm b (fun i x hx hlx hL => h i x hx hlx (.inl hL)) l hl l2 h2
  ·have hjm : j < m := h j o hj hlt (.inr rfl)
   obtain ⟨l3, h3⟩ := zf hst hjm hm h2
   rw [hl] at h3; cases h3
theorem cw.a40 (hM : cw G ops σs L σE) (hk : kindOf o.op = 2) (hs : ej o = false) : Eqv σE (σs j) := by
 have hjs := lt_size hst hj hnj ord1 ord2
 have hall := al2 hj hnj ord1 ord2 hk hs
 refine ⟨hM.n.trans (apr hst (Nat.le_of_lt hjs)).symm, fun t => hM.get t j (Nat.le_of_lt hjs) fun i hi _ => hall i hi, fun b => hM.ct b j (Nat.le_of_lt hjs) fun i hi _ => hall i hi, fun b l hl => ?_⟩
 have h1 := hM.ct b j (Nat.le_of_lt hjs) fun i hi _ => hall i hi
 have h2 := hM.fl j (Nat.le_of_lt hjs) b (fun i x hx _ hL => (hall i (by rcases Nat.lt_or_ge i ops.size with h | h <;> simp_all)).1 hL) l hl
 unfold Ev.ct at h1
 rw [hl] at h1
 simp only [Option.map_some, Option.map_eq_some_iff] at h1
 obtain ⟨y, hy, e⟩ := h1
 obtain ⟨fr, l3⟩ := y
 cases fr with
 | true => exact absurd hy (h2 l3)
 | false => exact ⟨l3, hy⟩
theorem cw.jz (hk : kindOf o.op = 2) (hs : ej o = false) {σE' : St} (he : Eqv σE' (σs (j + 1))) : cw G ops σs (fun i => L i ∨ i = j) σE' := by
 have hjs := lt_size hst hj hnj ord1 ord2
 have hall := al2 hj hnj ord1 ord2 hk hs
 have hall' : ∀ i, i < ops.size → ((L i ∨ i = j) ↔ i < j + 1) := by
  intro i hi
  rw [hall i hi]
  omega
 refine ⟨he.n.trans (apr hst hjs), fun t m hm h => ?_, fun b m hm h => ?_, fun m hm b h l hl l' h0 => ?_⟩
 ·rw [he.get]
  rcases Nat.le_total (j + 1) m with hle | hle
  ·refine (vj hst hle hm fun i h1 h2 ht => ?_).symm
   have := (hall' i (by omega)).1 ((h i (by omega) ht).2 h2)
   omega
  ·refine vj hst hle hjs fun i h1 h2 ht => ?_
   have := (h i (by omega) ht).1 ((hall' i (by omega)).2 h2)
   omega
 ·have hct : Ev.ct σE' b = Ev.ct (σs (j + 1)) b := he.ct b
  rw [hct]
  rcases Nat.le_total (j + 1) m with hle | hle
  ·refine (adt hst hle hm fun i h1 h2 ht => ?_).symm
   have := (hall' i (by omega)).1 ((h i (by omega) ht).2 h2)
   omega
  ·refine adt hst hle hjs fun i h1 h2 ht => ?_
   have := (h i (by omega) ht).1 ((hall' i (by omega)).2 h2)
   omega
 ·have hjm : j < m := h j o hj ⟨by rw [hk]; decide, fun e => by rw [hk] at e; cases e⟩ (.inr rfl)
  have hct := he.ct b
  rw [h0] at hct
  cases hb : lk (σs (j + 1)).heap b with
  | none => rw [hb] at hct; cases hct
  | some y =>
   obtain ⟨fr, l2⟩ := y
   cases fr with
   | false =>
    obtain ⟨l3, h3⟩ := he.fl b l2 hb
    rw [h0] at h3; cases h3
   | true =>
    obtain ⟨l3, h3⟩ := zf hst hjm hm ⟨l2, hb⟩
    rw [hl] at h3; cases h3
theorem cw.ctS (hM : cw G ops σs L σE) (hs : ej o = true) (b : Nat) : Ev.ct σE b = Ev.ct (σs j) b := by
 have hjs := lt_size hst hj hnj ord1 ord2
 refine hM.ct b j (Nat.le_of_lt hjs) fun i hi ⟨x, hx, hxt⟩ => ?_
 have hc : jv rf ops i x j o = true := by
  refine (kg (c9 hs).1 (.inr (.inl ?_))).2
  rcases hxt with hxt | hxt
  ·rw [hxt.1]; decide
  ·rw [hxt.1]; decide
 rcases Nat.lt_trichotomy i j with h | h | h
 ·exact ⟨fun _ => h, fun _ => ord1 i x h hx hc⟩
 ·subst h; exact ⟨fun h => absurd h hnj, fun h => absurd h (Nat.lt_irrefl _)⟩
 ·exact ⟨fun hL => absurd hL (ord2 i x h hx hc), fun h' => by omega⟩
theorem cw.a2k (hM : cw G ops σs L σE) (hs : ej o = true) {σE' : St} (hn : σE'.n = σE.n) (hget : ∀ t, σE'.get t = σE.get t) (hct : ∀ b, Ev.ct σE' b = Ev.ct (σs (j + 1)) b)
  (hfl : ∀ b l', lk σE'.heap b = some (true, l') → ∃ l, lk σE.heap b = some (true, l)) : cw G ops σs (fun i => L i ∨ i = j) σE' := by
 have hjs := lt_size hst hj hnj ord1 ord2
 obtain ⟨hk, hd, _⟩ := c9 hs
 refine ⟨hn.trans hM.n, fun t m hm h => ?_, fun b m hm h => ?_, fun m hm b h l hl l' h0 => ?_⟩
 ·rw [hget t]
  refine hM.get t m hm fun i hi htc => ?_
  have := h i hi htc
  have hne : i ≠ j := by
   rintro rfl
   obtain ⟨x, hx, hxt⟩ := htc
   rw [hj] at hx; cases hx
   rcases hxt with hxt | hxt
   ·rw [hd] at hxt; cases hxt
   ·rw [hs] at hxt; exact absurd hxt.2 (by decide)
  exact ⟨fun hL => this.1 (.inl hL), fun hlt => (this.2 hlt).resolve_right hne⟩
 ·by_cases htb : stb G o (σs j) b
  ·rw [hct b]
   have hjm : j < m := (h j hjs ⟨o, hj, .inl ⟨hk, fun _ => htb⟩⟩).1 (.inr rfl)
   refine (adt hst hjm hm fun i h1 h2 htc => ?_).symm
   obtain ⟨x, hx, hxt⟩ := htc
   have hL := (h i (by omega) ⟨x, hx, hxt⟩).2 h2
   rcases hL with hL | hL
   ·refine ord2 i x (by omega) hx ((kg hk (.inr (.inl ?_))).2) hL
    rcases hxt with hxt | hxt
    ·rw [hxt.1]; decide
    ·rw [hxt.1]; decide
   ·omega
  ·rw [hct b, alc (hst j o hj) (fun e => htb (e.2 hs)) (fun e => by rw [hk] at e; exact absurd e.1 (by decide)), ← cw.ctS hst hj hnj ord1 ord2 hM hs b]
   refine hM.ct b m hm fun i hi htc => ?_
   have := h i hi htc
   have hne : i ≠ j := by
    rintro rfl
    obtain ⟨x, hx, hxt⟩ := htc
    rw [hj] at hx; cases hx
    rcases hxt with hxt | hxt
    ·exact htb (hxt.2 hs)
    ·rw [hk] at hxt; exact absurd hxt.1 (by decide)
   exact ⟨fun hL => this.1 (.inl hL), fun hlt => (this.2 hlt).resolve_right hne⟩
 ·obtain ⟨l2, h2⟩ := hfl b l' h0
  exact hM.fl m hm b (fun i x hx hlx hL => h i x hx hlx (.inl hL)) l hl l2 h2
end
end Go.Ev

namespace Go.Ev
open Go
section
variable {T : Tab} {P : Program} {G : bb} {rf : Nat → Nat → Bool} {ops : Array Oper} {σs : Nat → St}
variable {w0 : World} {M : Own} {S0 : Imm} {a : Act} {w : World} {β : Own} {S : Imm} {L : Nat → Prop} {σE : St} {j : Nat} {o : Oper}
theorem aaq (h : Rel G w0 M S0 σE a w β S) (hg : a8 ops o σE) : Region.wanted o (yielded ops a.tmps) = true := by
 rcases hg with hg | ⟨k, want, g, h1, h2, h3⟩
 ·simp [Region.wanted, hg]
 ·have hv := h.get g
  rw [h3] at hv
  simp only [AR, DR] at hv
  have hy : yielded ops a.tmps k = some want := by
   unfold yielded
   unfold ake at h2
   rw [h2]
   rw [Array.getD_eq_getD_getElem?] at hv
   cases hq : a.tmps[g]? with
   | none => rw [hq] at hv; simp [undef] at hv
   | some u => rw [hq] at hv; simp at hv; simp [hq, hv]
  simp [Region.wanted, h1, hy]
theorem adn (h : Rel G w0 M S0 σE a w β S) (hg : mh ops o σE) : Region.wanted o (yielded ops a.tmps) = false := by
 obtain ⟨k, want, g, h1, h2, h3⟩ := hg
 have hv := h.get g
 rcases h3 with h3 | h3
 ·rw [h3] at hv
  simp only [AR, DR] at hv
  have hy : yielded ops a.tmps k = some (!want) := by
   unfold yielded
   unfold ake at h2
   rw [h2]
   rw [Array.getD_eq_getD_getElem?] at hv
   cases hq : a.tmps[g]? with
   | none => rw [hq] at hv; simp [undef] at hv
   | some u => rw [hq] at hv; simp at hv; simp [hq, hv]
  simp only [Region.wanted, h1, hy]
  cases want <;> rfl
 ·rw [h3] at hv
  simp only [AR, DR, DRs] at hv
  obtain ⟨vs, hv, hvs⟩ := hv
  have hy : yielded ops a.tmps k = none := by
   unfold yielded
   unfold ake at h2
   rw [h2]
   rw [Array.getD_eq_getD_getElem?] at hv
   cases hq : a.tmps[g]? with
   | none => simp [hq]
   | some u => rw [hq] at hv; simp at hv; subst hv; simp [hq]
  simp [Region.wanted, h1, hy]
mutual
theorem aq3 : ∀ {x : A} {v : Value} {b : Nat}, AR β S w x v → cv x b → β b ≠ none
 | .ptr c o, v, b, h, hr => by
  simp only [cv] at hr
  subst hr
  simp only [AR] at h
  obtain ⟨k, hk, _⟩ := h
  rw [hk]; simp
 | .own c o n sz, v, b, h, hr => by
  simp only [cv] at hr
  subst hr
  simp only [AR] at h
  rcases h with ⟨k, hk, _⟩ | ⟨_, hk, _⟩
  ·rw [hk]; simp
  ·exact hk
 | .d _, v, b, h, hr => by simp only [cv] at hr
 | .elem _, v, b, h, hr => by simp only [cv] at hr
 | .agg l, v, b, h, hr => by
  simp only [cv] at hr
  simp only [AR] at h
  obtain ⟨vs, _, h⟩ := h
  exact afb h hr
 | .fn _ l, v, b, h, hr => by
  simp only [cv] at hr
  simp only [AR] at h
  obtain ⟨vs, _, h⟩ := h
  exact afb h hr
theorem afb : ∀ {l : List A} {vs : List Value} {b : Nat}, ARs β S w l vs → aai l b → β b ≠ none
 | [], vs, b, _, hr => by simp only [aai] at hr
 | x :: l, vs, b, h, hr => by
  simp only [ARs] at h
  obtain ⟨u, us, _, h1, h2⟩ := h
  simp only [aai] at hr
  rcases hr with hr | hr
  ·exact aq3 h1 hr
  ·exact afb h2 hr
end
theorem ag3 (h : Rel G w0 M S0 σE a w β S) {x : Operand} {b : Nat} (hr : cv (σE.ev G x) b) : lk σE.heap b ≠ none :=
 h.keys b (aq3 (h.ev x) hr)
theorem acw {t : Nat} (h : Operand.tmp t ∈ o.op.operands) : t ∈ o.looksAt ops := by
 unfold Oper.looksAt
 refine List.mem_append.2 (.inl ?_)
 exact List.mem_filterMap.2 ⟨.tmp t, by simpa using h, rfl⟩
theorem r8 {k g : Nat} {want : Bool} (h : o.guard = some (k, want)) (hg : ake ops k = some g) : g ∈ o.looksAt ops := by
 unfold Oper.looksAt
 refine List.mem_append.2 (.inr ?_)
 unfold ake at hg
 simp [h, hg]
variable (hst : ∀ i o, ops[i]? = some o → lg P G T ops o (σs i) (σs (i + 1)))
variable (hsp : ∀ k o, ops[k]? = some o → (∀ p ∈ bk o, p < k) ∧ ∀ i x, i < k → ops[i]? = some x → jv rf ops i x k o = true → Anc ops k i)
variable (hcl : ∀ k o, L k → ops[k]? = some o → ∀ p ∈ bk o, L p)
variable (hrf : ∀ i j x y b, ops[i]? = some x → ops[j]? = some y → rf i j = true → stb G x (σs i) b → ab3 G y (σs j) b → False)
theorem qs (hcl : ∀ k o, L k → ops[k]? = some o → ∀ p ∈ bk o, L p) {k i : Nat} (h : Anc ops k i) : L k → L i := by
 induction h with
 | one h hi => exact fun hk => hcl _ _ hk h _ hi
 | more h hp ha ih => exact fun hk => ih (hcl _ _ hk h _ hp)
theorem ah3 (hcl : ∀ k o, L k → ops[k]? = some o → ∀ p ∈ bk o, L p) {k i : Nat} (h : Anc ops k i) (hr : ∀ o, ops[k]? = some o → ∀ p ∈ bk o, L p) : L i := by
 cases h with
 | one h hi => exact hr _ h _ hi
 | more h hp ha => exact qs hcl ha (hr _ h _ hp)
variable (hj : ops[j]? = some o) (hnj : ¬ L j) (hr : ∀ p ∈ bk o, L p)
include hsp hcl hj hr in
theorem y5 : ∀ i x, i < j → ops[i]? = some x → jv rf ops i x j o = true → L i := fun i x hi hx hc =>
 ah3 hcl ((hsp j o hj).2 i x hi hx hc) (fun o' ho' => by rw [hj] at ho'; cases ho'; exact hr)
include hsp hcl hj hnj in
theorem y6 : ∀ i x, j < i → ops[i]? = some x → jv rf ops i x j o = true → ¬ L i := fun i x hi hx hc hL =>
 hnj (qs hcl ((hsp i x hx).2 j o hi hj (aow hc)) hL)
include hsp hcl hj hnj hr in
theorem as6 (hM : cw G ops σs L σE) : aff G o (σs j) σE := by
 intro x hx
 cases x with
 | tmp t =>
  have hjs : j < ops.size := by
   rcases Nat.lt_or_ge j ops.size with h | h
   ·exact h
   ·simp [Array.getElem?_eq_none h] at hj
  exact hM.get t j (Nat.le_of_lt hjs) (ajz hj hnj (y5 hsp hcl hj hr) (y6 hsp hcl hj hnj) (.inl (acw hx)))
 | _ => rfl
include hsp hcl hj hnj hr in
theorem amf (hM : cw G ops σs L σE) (hg : a8 ops o (σs j)) : a8 ops o σE := by
 have hjs : j < ops.size := by
  rcases Nat.lt_or_ge j ops.size with h | h
  ·exact h
  ·simp [Array.getElem?_eq_none h] at hj
 rcases hg with hg | ⟨k, want, g, h1, h2, h3⟩
 ·exact .inl hg
 ·refine .inr ⟨k, want, g, h1, h2, ?_⟩
  rw [hM.get g j (Nat.le_of_lt hjs) (ajz hj hnj (y5 hsp hcl hj hr) (y6 hsp hcl hj hnj) (.inl (r8 h1 h2)))]
  exact h3
include hsp hcl hj hnj hr in
theorem ao7 (hM : cw G ops σs L σE) (hg : mh ops o (σs j)) : mh ops o σE := by
 have hjs : j < ops.size := by
  rcases Nat.lt_or_ge j ops.size with h | h
  ·exact h
  ·simp [Array.getElem?_eq_none h] at hj
 obtain ⟨k, want, g, h1, h2, h3⟩ := hg
 refine ⟨k, want, g, h1, h2, ?_⟩
 rw [hM.get g j (Nat.le_of_lt hjs) (ajz hj hnj (y5 hsp hcl hj hr) (y6 hsp hcl hj hnj) (.inl (r8 h1 h2)))]
 exact h3
theorem made {i b : Nat} {x : Oper} (hst : ∀ i o, ops[i]? = some o → lg P G T ops o (σs i) (σs (i + 1))) (hx : ops[i]? = some x) (h : kindOf x.op = 1 ∧ x.dst = some b ∧ a8 ops x (σs i)) :
  lk (σs i).heap b = none ∧ lk (σs (i + 1)).heap b ≠ none := by
 obtain ⟨τ0, hs, _, _, hh⟩ := hst i x hx
 cases hs with
 | skip hg _ => exact (qu h.2.2 hg).elim
 | lt hg hl _ _ _ => rw [gm hl] at h; exact absurd h.1 (by decide)
 | st hg hs _ _ _ _ _ _ => rw [(c9 hs).1] at h; exact absurd h.1 (by decide)
 | val hg hk _ _ _ _ => rw [h.1] at hk; cases hk
 | call hg hk _ _ _ _ _ _ _ => rw [h.1] at hk; cases hk
 | wr hg hk _ _ _ _ _ _ => rw [h.1] at hk; cases hk
 | new hg hk d hd r l hf he t =>
  rw [h.2.1] at hd; cases hd
  refine ⟨hf, ?_⟩
  rw [hh, he]
  simp [St.put, St.new, lk]
include hst hsp hcl hj hnj hr hrf in
theorem ank (hrel : Rel G w0 M S0 σE a w β S) (hM : cw G ops σs L σE) (hk1 : kindOf o.op ≠ 1) (hk2 : kindOf o.op ≠ 2) (hlt : kr o = false) : Reach G o (σs j) σE := by
 intro x hx b hrf' fr l hl
 have hsame := as6 (G := G) hsp hcl hj hnj hr hM x hx
 have hne := ag3 (G := G) hrel (x := x) (b := b) (by rw [hsame]; exact hrf')
 have ord1 := y5 hsp hcl hj hr
 have ord2 := y6 hsp hcl hj hnj
 have hjs : j < ops.size := by
  rcases Nat.lt_or_ge j ops.size with h | h
  ·exact h
  ·simp [Array.getElem?_eq_none h] at hj
 have hl' : lk (σs j).heap b = some (fr, l) := hl
 have hcw : ∀ i y, ops[i]? = some y → (kindOf y.op = 2 ∧ (ej y = true → stb G y (σs i) b)) → jv rf ops i y j o = true := fun i y hy hyt => by
  refine (kg hyt.1 ?_).1
  cases hs : ej y with
  | false => exact .inl rfl
  | true =>
   refine .inr (.inr ⟨hlt, ?_⟩)
   cases hq : rf i j with
   | false => rfl
   | true => exact (hrf i j y o b hy hj hq (hyt.2 hs) ⟨x, hx, hrf'⟩).elim
 -- what made the key behind has made it
 have hall : ∀ i x, i < j → ops[i]? = some x → (kindOf x.op = 1 ∧ x.dst = some b ∧ a8 ops x (σs i)) → L i := by
  intro i0 x0 hi0 hx0 hm0
  refine Classical.byContradiction fun hn0 => ?_
  obtain ⟨hnone, hsome⟩ := made hst hx0 hm0
  have hcons : ∀ i, i < ops.size → dz G ops σs i b → (L i ↔ i < i0) := by
   rintro i hi ⟨y, hy, hyt⟩
   rcases Nat.lt_trichotomy i i0 with h | h | h
   ·refine ⟨fun _ => h, fun _ => ?_⟩
    rcases hyt with hyt | hyt
    ·exact ord1 i y (by omega) hy (hcw i y hy hyt)
    ·obtain ⟨_, h2⟩ := made hst hy hyt
     exact absurd hnone (yy hst (a := i + 1) (by omega) (by omega) h2)
   ·subst h
    exact ⟨fun h => absurd h hn0, fun h => absurd h (Nat.lt_irrefl _)⟩
   ·refine ⟨fun hL => ?_, fun h' => by omega⟩
    exfalso
    rcases hyt with hyt | hyt
    ·have hc : jv rf ops i0 x0 i y = true := (kg hyt.1 (.inr (.inl (by rw [hm0.1]; decide)))).2
     exact hn0 (qs hcl ((hsp i y hy).2 i0 x0 h hx0 hc) hL)
    ·obtain ⟨h1, _⟩ := made hst hy hyt
     exact absurd h1 (yy hst (a := i0 + 1) (by omega) (by omega) hsome)
  have := hM.ct b i0 (by omega) hcons
  unfold ct at this
  rw [hnone] at this
  exact hne (by simpa using this)
 have hcons : ∀ i, i < ops.size → dz G ops σs i b → (L i ↔ i < j) := by
  rintro i hi ⟨y, hy, hyt⟩
  rcases Nat.lt_trichotomy i j with h | h | h
  ·refine ⟨fun _ => h, fun _ => ?_⟩
   rcases hyt with hyt | hyt
   ·exact ord1 i y h hy (hcw i y hy hyt)
   ·exact hall i y h hy hyt
  ·subst h
   rw [hj] at hy; cases hy
   rcases hyt with hyt | hyt
   ·exact absurd hyt.1 hk2
   ·exact absurd hyt.1 hk1
  ·refine ⟨fun hL => ?_, fun h' => by omega⟩
   exfalso
   rcases hyt with hyt | hyt
   ·exact ord2 i y h hy (hcw i y hy hyt) hL
   ·obtain ⟨h1, _⟩ := made hst hy hyt
    exact absurd h1 (yy hst (a := j) (Nat.le_of_lt h) (by omega) (by rw [hl']; simp))
 have := hM.ct b j (Nat.le_of_lt hjs) hcons
 unfold ct at this
 rw [hl'] at this
 simp only [Option.map_some, Option.map_eq_some_iff] at this
 obtain ⟨y, hy, e⟩ := this
 obtain ⟨fr', l'⟩ := y
 exact ⟨fr', by rw [← e]; exact hy⟩
include hsp hcl hj hnj hr in
theorem a07 (hM : cw G ops σs L σE) {d : Nat} (hk : kindOf o.op = 1) (hd : o.dst = some d) (hn : lk (σs j).heap d = none) : lk σE.heap d = none := by
 have ord1 := y5 hsp hcl hj hr
 have ord2 := y6 hsp hcl hj hnj
 have hjs : j < ops.size := by
  rcases Nat.lt_or_ge j ops.size with h | h
  ·exact h
  ·simp [Array.getElem?_eq_none h] at hj
 have hcons : ∀ i, i < ops.size → dz G ops σs i d → (L i ↔ i < j) := by
  rintro i hi ⟨y, hy, hyt⟩
  have hc : jv rf ops i y j o = true := by
   rcases hyt with hyt | hyt
   ·exact (kg hyt.1 (.inr (.inl (by rw [hk]; decide)))).1
   ·exact mf (.inl hyt.2.1) (.inr hd)
  rcases Nat.lt_trichotomy i j with h | h | h
  ·exact ⟨fun _ => h, fun _ => ord1 i y h hy hc⟩
  ·subst h; exact ⟨fun h => absurd h hnj, fun h => absurd h (Nat.lt_irrefl _)⟩
  ·exact ⟨fun hL => absurd hL (ord2 i y h hy hc), fun h' => by omega⟩
 have := hM.ct d j (Nat.le_of_lt hjs) hcons
 unfold ct at this
 rw [hn] at this
 simpa using this
theorem ahh (hT : b6 P T) (hst : ∀ i o, ops[i]? = some o → lg P G T ops o (σs i) (σs (i + 1)))
  (hsp : ∀ k o, ops[k]? = some o → (∀ p ∈ bk o, p < k) ∧ ∀ i x, i < k → ops[i]? = some x → jv rf ops i x k o = true → Anc ops k i)
  (hrf : ∀ i j x y b, ops[i]? = some x → ops[j]? = some y → rf i j = true → stb G x (σs i) b → ab3 G y (σs j) b → False)
  (hcl : ∀ k o, L k → ops[k]? = some o → ∀ p ∈ bk o, L p) (hj : ops[j]? = some o) (hnj : ¬ L j) (hr : ∀ p ∈ bk o, L p)
  (hdst : ∀ d, o.dst = some d → d < σE.n) (hrel : Rel G w0 M S0 σE a w β S) (hM : cw G ops σs L σE) {K : Act → World → Prop} {Q : Exit → Act → World → Prop}
  (hK : ∀ a w σ' β S, Rel G w0 M S0 σ' a w β S → cw G ops σs (fun i => L i ∨ i = j) σ' → K a w) : wpOp P ops Q j K a w := by
 have ord1 := y5 hsp hcl hj hr
 have ord2 := y6 hsp hcl hj hnj
 have hsame := as6 (G := G) hsp hcl hj hnj hr hM
 obtain ⟨τ, hs, e1, e2, hh⟩ := hst j o hj
 have hfin : ∀ {K' : St → Prop}, ni P G T σE o K' → a8 ops o (σs j) → (∀ σ', K' σ' → cw G ops σs (fun i => L i ∨ i = j) σ') → wpOp P ops Q j K a w := by
  intro K' hev hg hm
  refine v8 hj (aaq hrel (amf hsp hcl hj hnj hr hM hg)) (Oper.wp_mono ?_ (ve hT hrel hdst hev Q))
  rintro a' w' ⟨σ2, β2, S2, hK2, h2, _⟩
  exact hK a' w' σ2 β2 S2 h2 (hm σ2 hK2)
 cases hs with
 | skip hg h =>
  have hw := adn hrel (ao7 hsp hcl hj hnj hr hM hg)
  have hrel' := y9 hrel o.dst hdst
  simp only [wpOp, hj, hw, Bool.false_eq_true, if_false]
  refine hK _ _ _ _ _ hrel' ?_
  by_cases hss : ej o = true
  ·obtain ⟨_, hd, _⟩ := c9 hss
   rw [hd]
   refine cw.a2k hst hj hnj ord1 ord2 hM hss rfl (fun _ => rfl) (fun b => ?_) (fun b l' hl => ⟨l', hl⟩)
   show Ev.ct σE b = _
   rw [cw.ctS hst hj hnj ord1 ord2 hM hss b]
   unfold ct
   rw [hh, h, aq]
  have hss : ej o = false := by simpa using hss
  by_cases hk : kindOf o.op = 2
  ·refine cw.jz hst hj hnj ord1 ord2 hk hss ?_
   have he := (cw.a40 hst hj hnj ord1 ord2 hM hk hss).put o.dst (.d (.tup []))
   rw [← h] at he
   exact he.trans e1
  ·refine cw.step hst hj hnj ord1 ord2 hM hk (mq _ _ _) (fun t ht => ?_) (fun t ht => b9 ht) (fun b hb => (qu hb.2.2 hg).elim) (fun b _ => by simp only [ct, aq]) (fun b l' hl => .inl ⟨l', by rw [aq] at hl; exact hl⟩)
   rw [e2.get, h, ht, bc, if_pos rfl, bc, if_pos rfl]
 | lt hg hl r h t =>
  have hk := gm hl
  refine hfin (K' := fun σ' => σ' = σE.put o.dst r) (t σE _ hsame rfl) hg ?_
  rintro σ' rfl
  refine cw.step hst hj hnj ord1 ord2 hM (by rw [hk]; decide) (mq _ _ _) (fun t ht => ?_) (fun t ht => b9 ht) (fun b hb => by rw [hk] at hb; exact absurd hb.1 (by decide)) (fun b _ => by simp only [ct, aq]) (fun b l' hl => .inl ⟨l', by rw [aq] at hl; exact hl⟩)
  rw [e2.get, h, ht, bc, if_pos rfl, bc, if_pos rfl]
 | st hg hs b l row hb h t hstb =>
  have hcb := cw.ctS hst hj hnj ord1 ord2 hM hs
  have hjs := lt_size hst hj hnj ord1 ord2
  have hfr : lk σE.heap b = some (false, l) := by
   have h1 := hcb b
   unfold ct at h1
   rw [hb] at h1
   simp only [Option.map_some, Option.map_eq_some_iff] at h1
   obtain ⟨y, hy, e⟩ := h1
   obtain ⟨fr, l3⟩ := y
   cases fr with
   | false => rw [hy, ← e]
   | true =>
    exfalso
    refine hM.fl j (Nat.le_of_lt hjs) b (fun i x hx hlx hL => ?_) l hb l3 hy
    rcases Nat.lt_trichotomy i j with hij | hij | hij
    ·exact hij
    ·subst hij; exact absurd hL hnj
    ·by_cases h3 : kindOf x.op = 3
     ·have hlt : kr x = false := by
       cases hl : kr x with
       | false => rfl
       | true => have := gm hl; rw [h3] at this; cases this
      cases hq : rf j i with
      | true => exact (hrf j i o x b hj hx hq hstb (hlx.2 h3)).elim
      | false => exact absurd hL (ord2 i x hij hx (kg (c9 hs).1 (.inr (.inr ⟨hlt, hq⟩))).2)
     ·exact absurd hL (ord2 i x hij hx (kg (c9 hs).1 (.inr (.inl ⟨hlx.1, h3⟩))).2)
  refine hfin (K' := fun σ' => σ' = σE.wr b row) (t σE _ hsame hfr rfl) hg ?_
  rintro σ' rfl
  refine cw.a2k hst hj hnj ord1 ord2 hM hs rfl (fun _ => rfl) (fun b' => ?_) (fun b' l' hl => ?_)
  ·have h1 := hcb b'
   unfold ct at h1 ⊢
   rw [hh, h, wo, wo]
   split
   ·rename_i e; subst e
    rw [hfr, hb]
   ·exact h1
  ·rw [wo] at hl
   split at hl
   ·rename_i e; subst e
    rw [hfr] at hl; cases hl
   ·exact ⟨l', hl⟩
 | val hg hk hlt r h t =>
  refine hfin (K' := fun σ' => σ' = σE.put o.dst r) (t σE _ hsame (ank hst hsp hcl hrf hj hnj hr hrel hM (by rw [hk]; decide) (by rw [hk]; decide) hlt) rfl) hg ?_
  rintro σ' rfl
  refine cw.step hst hj hnj ord1 ord2 hM (by rw [hk]; decide) (mq _ _ _) (fun t ht => ?_) (fun t ht => b9 ht) (fun b hb => by rw [hk] at hb; exact absurd hb.1 (by decide)) (fun b _ => by simp only [ct, aq]) (fun b l' hl => .inl ⟨l', by rw [aq] at hl; exact hl⟩)
  rw [e2.get, h, ht, bc, if_pos rfl, bc, if_pos rfl]
 | new hg hk d hd r l hf h t =>
  refine hfin (K' := fun σ' => σ' = (σE.new d l).put (some d) r) (t σE _ hsame (a07 hsp hcl hj hnj hr hM hk hd hf) rfl) hg ?_
  rintro σ' rfl
  refine cw.step hst hj hnj ord1 ord2 hM (by rw [hk]; decide) (mq _ _ _) (fun t ht => ?_) (fun t ht => ?_) (fun b hb => ?_) (fun b hb => ?_) (fun b l' hl => .inl ?_)
  ·rw [hd] at ht; cases ht
   rw [e2.get, h, bc, if_pos rfl, bc, if_pos rfl]
  ·rw [b9 (by rw [← hd]; exact ht)]; rfl
  ·have hbd : d = b := by have := hb.2.1; rw [hd] at this; cases this; rfl
   subst hbd
   show (lk _ _).map _ = (lk _ _).map _
   rw [hh, h]
   simp [St.put, St.new, lk]
  ·have hbd : ¬ d = b := fun e => hb ⟨hk, by rw [hd, e], hg⟩
   show (lk _ _).map _ = (lk _ _).map _
   simp only [aq, St.new, lk]
   rw [if_neg hbd]
  ·simp only [aq, St.new, lk] at hl
   split at hl
   ·cases hl
   ·exact ⟨l', hl⟩
 | call hg hk fresh r bs hb hbr h t =>
  refine hfin (K' := fun σ' => σ' = (if fresh then σE else σE.freeze bs).put o.dst r) (t σE _ hsame (ank hst hsp hcl hrf hj hnj hr hrel hM (by rw [hk]; decide) (by rw [hk]; decide) (by cases hl : kr o with | false => rfl | true => have := gm hl; rw [hk] at this; cases this)) rfl) hg ?_
  rintro σ' rfl
  refine cw.step hst hj hnj ord1 ord2 hM (by rw [hk]; decide) ?_ (fun t ht => ?_) (fun t ht => ?_) (fun b hb => by rw [hk] at hb; exact absurd hb.1 (by decide)) (fun b _ => ?_) (fun b l' hl => ?_)
  ·rw [mq]; cases fresh
   ·exact xl _ _
   ·rfl
  ·rw [e2.get, h, ht, bc, if_pos rfl, bc, if_pos rfl]
  ·rw [b9 ht]; cases fresh
   ·exact nj _ _ _
   ·rfl
  ·simp only [ct, aq]
   cases fresh
   ·simp only [Bool.false_eq_true, if_false, c8, Option.map_map]; rfl
   ·rfl
  ·rw [aq] at hl
   cases fresh with
   | true => exact .inl ⟨l', hl⟩
   | false =>
    simp only [Bool.false_eq_true, if_false, c8, Option.map_eq_some_iff] at hl
    obtain ⟨y, hy, e⟩ := hl
    obtain ⟨fr, l2⟩ := y
    simp only [Prod.mk.injEq] at e
    obtain ⟨e3, rfl⟩ := e
    cases fr with
    | true => exact .inl ⟨l2, hy⟩
    | false =>
     simp only [Bool.false_or, List.contains_iff_mem] at e3
     refine .inr ⟨⟨by rw [hk]; decide, fun _ => hbr b e3⟩, ?_⟩
     rw [hh, h, aq]
     simp only [Bool.false_eq_true, if_false, c8]
     cases hq : lk (σs j).heap b with
     | none => obtain ⟨fr', ds, hds⟩ := hb b e3; rw [hq] at hds; cases hds
     | some y =>
      obtain ⟨fr, l3⟩ := y
      exact ⟨l3, by simp [e3]⟩
 | wr hg hk hss hn mono keys fd t =>
  have he := cw.a40 hst hj hnj ord1 ord2 hM hk hss
  refine hfin (K' := fun σ' => Eqv σ' τ) (t σE _ he fun τ' h => h) hg fun σ' h => ?_
  exact cw.jz hst hj hnj ord1 ord2 hk hss (h.trans e1)
theorem qi {listed : Array Bool} {i : Nat} : i ∈ Region.ready .any ops listed ↔ i < ops.size ∧ listed.getD i true = false ∧ ∀ o, ops[i]? = some o → ∀ p ∈ bk o, listed.getD p false = true := by
 unfold Region.ready
 simp only [List.mem_filter, List.mem_range, Bool.and_eq_true, Bool.not_eq_true']
 constructor
 ·rintro ⟨h1, h2, h3⟩
  refine ⟨h1, h2, fun o ho p hp => ?_⟩
  rw [ho] at h3
  simp only [Option.map_some, Option.getD_some, Array.all_eq_true_iff_forall_mem] at h3
  obtain ⟨e, he, rfl⟩ := List.mem_map.1 hp
  obtain ⟨he1, he2⟩ := List.mem_filter.1 he
  have := h3 e (Array.mem_toList_iff.1 he1)
  simpa [he2] using this
 ·rintro ⟨h1, h2, h3⟩
  refine ⟨h1, h2, ?_⟩
  obtain ⟨o, ho⟩ : ∃ o, ops[i]? = some o := ⟨ops[i], by simp [h1]⟩
  rw [ho]
  simp only [Option.map_some, Option.getD_some, Array.all_eq_true_iff_forall_mem]
  intro e he
  cases hb : Region.binds .any e with
  | false => rfl
  | true => simpa using h3 o ho e.on (List.mem_map.2 ⟨e, List.mem_filter.2 ⟨Array.mem_toList_iff.2 he, hb⟩, rfl⟩)
theorem qe {l : Array Bool} {i : Nat} (h : i < l.size) : l.getD i true = l.getD i false := by
 simp [Array.getD_eq_getD_getElem?, h]
theorem uo {l : Array Bool} {i k : Nat} (h : i < l.size) : (l.setIfInBounds i true).getD k false = true ↔ l.getD k false = true ∨ k = i := by
 simp only [Array.getD_eq_getD_getElem?, Array.getElem?_setIfInBounds]
 by_cases e : i = k
 ·subst e; simp [h]
 ·rw [if_neg e]
  exact ⟨.inl, fun hh => hh.resolve_right fun e' => e e'.symm⟩
def ot (n : Nat) (l : Array Bool) : Nat := ((List.range n).filter fun i => !l.getD i false).length
theorem ab8 {l : Array Bool} {n i : Nat} (hi : i < n) (hs : l.size = n) (h : l.getD i false = false) : ot n (l.setIfInBounds i true) + 1 = ot n l := by
 have key : ∀ (is : List Nat), is.Nodup → ((is.filter fun k => !(l.setIfInBounds i true).getD k false).length + (if i ∈ is then 1 else 0)) = (is.filter fun k => !l.getD k false).length := by
  intro is
  induction is with
  | nil => simp
  | cons k is ih =>
   intro hnd
   obtain ⟨hk, hnd⟩ := List.nodup_cons.1 hnd
   have ih := ih hnd
   by_cases e : k = i
   ·subst e
    have h1 : (l.setIfInBounds k true).getD k false = true := (uo (by omega)).2 (.inr rfl)
    rw [if_neg hk] at ih
    simp only [List.filter_cons, h1, h, List.mem_cons, true_or, if_true]
    simp only [Bool.not_true, Bool.false_eq_true, if_false, Bool.not_false, if_true, List.length_cons]
    omega
   ·have h1 : (l.setIfInBounds i true).getD k false = l.getD k false := by
     have := uo (l := l) (i := i) (k := k) (by omega)
     cases hq : l.getD k false <;> cases hp : (l.setIfInBounds i true).getD k false <;> simp_all
    have e3 : (if i ∈ k :: is then 1 else 0) = (if i ∈ is then 1 else 0) := by
     by_cases h2 : i ∈ is
     ·rw [if_pos h2, if_pos (List.mem_cons_of_mem _ h2)]
     ·rw [if_neg h2, if_neg fun hh => (List.mem_cons.1 hh).elim (fun e' => e e'.symm) h2]
    rw [e3]
    simp only [List.filter_cons, h1]
    split <;> (try simp only [List.length_cons]) <;> omega
 have := key (List.range n) List.nodup_range
 rw [if_pos (List.mem_range.2 hi)] at this
 exact this
theorem ajs (hT : b6 P T) (hst : ∀ i o, ops[i]? = some o → lg P G T ops o (σs i) (σs (i + 1)))
  (hsp : ∀ k o, ops[k]? = some o → (∀ p ∈ bk o, p < k) ∧ ∀ i x, i < k → ops[i]? = some x → jv rf ops i x k o = true → Anc ops k i)
  (hrf : ∀ i j x y b, ops[i]? = some x → ops[j]? = some y → rf i j = true → stb G x (σs i) b → ab3 G y (σs j) b → False)
  (hd : ∀ o ∈ ops.toList, ∀ d, o.dst = some d → d < (σs 0).n) {Q : Exit → Act → World → Prop}
  (hQ : ∀ a w σ' β S, Rel G w0 M S0 σ' a w β S → Eqv σ' (σs ops.size) → Q .normal a w) :
  ∀ (fuel : Nat) (listed : Array Bool) (a : Act) (w : World) (σE : St) (β : Own) (S : Imm), listed.size = ops.size → ot ops.size listed = fuel →
   (∀ k o, listed.getD k false = true → ops[k]? = some o → ∀ p ∈ bk o, listed.getD p false = true) →
   Rel G w0 M S0 σE a w β S → cw G ops σs (fun i => listed.getD i false = true) σE → wpAny P .any ops Q fuel listed a w := by
 have hdone : ∀ (listed : Array Bool) (a : Act) (w : World) (σE : St) (β : Own) (S : Imm), listed.size = ops.size → Rel G w0 M S0 σE a w β S → cw G ops σs (fun i => listed.getD i false = true) σE →
   Region.ready .any ops listed = [] → Q .normal a w := by
  intro listed a w σE β S hsz hrel hM hnil
  have hall : ∀ i, i < ops.size → listed.getD i false = true := by
   intro i
   induction i using Nat.strongRecOn with
   | _ i ih =>
    intro hi
    cases hl : listed.getD i false with
    | true => rfl
    | false =>
     exfalso
     have : i ∈ Region.ready .any ops listed := qi.2 ⟨hi, by rw [qe (by omega)]; exact hl, fun o ho p hp => by
      have hlt := (hsp i o ho).1 p hp
      exact ih p hlt (by omega)⟩
     rw [hnil] at this
     cases this
  refine hQ a w σE β S hrel ⟨hM.n.trans (apr hst (Nat.le_refl _)).symm, fun t => hM.get t _ (Nat.le_refl _) fun i hi _ => ⟨fun _ => hi, fun _ => hall i hi⟩, fun b => hM.ct b _ (Nat.le_refl _) fun i hi _ => ⟨fun _ => hi, fun _ => hall i hi⟩, fun b l hl => ?_⟩
  have h1 := hM.ct b _ (Nat.le_refl _) fun i hi _ => ⟨fun _ => hi, fun _ => hall i hi⟩
  have h2 := hM.fl _ (Nat.le_refl _) b (fun i x hx _ _ => (Array.getElem?_eq_some_iff.1 hx).1) l hl
  unfold ct at h1
  rw [hl] at h1
  simp only [Option.map_some, Option.map_eq_some_iff] at h1
  obtain ⟨y, hy, e⟩ := h1
  obtain ⟨fr, l3⟩ := y
  cases fr with
  | true => exact absurd hy (h2 l3)
  | false => exact ⟨l3, hy⟩
 intro fuel
 induction fuel with
 | zero =>
  intro listed a w σE β S hsz hu hcl hrel hM
  have hnil : Region.ready .any ops listed = [] := by
   refine List.eq_nil_iff_forall_not_mem.2 fun i hi => ?_
   obtain ⟨h1, h2, _⟩ := qi.1 hi
   have : i ∈ (List.range ops.size).filter fun i => !listed.getD i false := List.mem_filter.2 ⟨List.mem_range.2 h1, by rw [← qe (by omega), h2]; rfl⟩
   unfold ot at hu
   rw [List.length_eq_zero_iff.1 hu] at this
   cases this
  exact ⟨hnil, hdone listed a w σE β S hsz hrel hM hnil⟩
 | succ fuel ih =>
  intro listed a w σE β S hsz hu hcl hrel hM
  refine ⟨hdone listed a w σE β S hsz hrel hM, fun i hi => ?_⟩
  obtain ⟨h1, h2, h3⟩ := qi.1 hi
  rw [qe (by omega)] at h2
  obtain ⟨o, ho⟩ : ∃ o, ops[i]? = some o := ⟨ops[i], by simp [h1]⟩
  have hmem : o ∈ ops.toList := by
   have : ops.toList[i]? = some o := by simpa using ho
   exact List.mem_of_getElem? this
  refine ahh (L := fun i => listed.getD i false = true) hT hst hsp hrf hcl ho (by rw [h2]; simp) (h3 o ho) (fun d hd' => by rw [hM.n]; exact hd o hmem d hd') hrel hM ?_
  intro a' w' σ' β' S' hrel' hM'
  refine ih (listed.setIfInBounds i true) a' w' σ' β' S' (by simp [hsz]) (by have := ab8 h1 hsz h2; omega) ?_ hrel' ?_
  ·intro k o' hk ho' p hp
   rw [uo (by omega)] at hk ⊢
   rcases hk with hk | rfl
   ·exact .inl (hcl k o' hk ho' p hp)
   ·exact .inl (h3 o' ho' p hp)
  ·have : (fun k => (listed.setIfInBounds i true).getD k false = true) = fun k => listed.getD k false = true ∨ k = i := by
    funext k
    exact propext (uo (by omega))
   rw [this]
   exact hM'
theorem Eqv.a0f {σ' τ : St} (h : Eqv σ' τ) {b : Nat} (hl : lk σ'.heap b = none) : lk τ.heap b = none := by
 have := h.ct b
 rw [hl] at this
 cases hb : lk τ.heap b with
 | none => rfl
 | some x => rw [hb] at this; cases this
theorem Rel.azb {σ' τ : St} (h : Rel G w0 M S0 σ' a w β S) (he : Eqv σ' τ) (hfd : FD τ) : ∃ S', Rel G w0 M S0 τ a w β S' := by
 let bs := (τ.heap.map (·.1)).filter fun b => match lk τ.heap b with | some (true, _) => true | _ => false
 have hct : ∀ b fr l, lk τ.heap b = some (fr, l) → ∃ fr', lk σ'.heap b = some (fr', l) := fun b fr l hl => he.hp hl
 have hmem : ∀ (hp : List (Nat × Bool × List A)) (b : Nat) (x : Bool × List A), lk hp b = some x → b ∈ hp.map (·.1) := by
  intro hp
  induction hp with
  | nil => intro b x h; simp [lk] at h
  | cons y hp ih =>
   intro b x h
   obtain ⟨k, y⟩ := y
   simp only [lk] at h
   split at h
   ·rename_i e; subst e; simp
   ·exact List.mem_cons_of_mem _ (ih b x h)
 have hbs1 : ∀ b l, lk τ.heap b = some (true, l) → b ∈ bs := fun b l hl => List.mem_filter.2 ⟨hmem _ b _ hl, by simp [hl]⟩
 have hbs2 : ∀ b, b ∈ bs → ∃ l, lk τ.heap b = some (true, l) := by
  intro b hb
  have := (List.mem_filter.1 hb).2
  split at this
  ·rename_i l hl; exact ⟨l, hl⟩
  ·cases this
 have hfr := h.freeze (bs := bs) (fun b hb => by
  obtain ⟨l, hl⟩ := hbs2 b hb
  obtain ⟨ds, rfl⟩ := hfd b l hl
  obtain ⟨fr', h1⟩ := hct b _ _ hl
  exact ⟨fr', ds, h1⟩)
 have hflag : ∀ b fr l, lk τ.heap b = some (fr, l) → lk (σ'.freeze bs).heap b = some (fr, l) := by
  intro b fr l hl
  rw [c8]
  cases fr with
  | true =>
   obtain ⟨fr', h1⟩ := hct b _ _ hl
   have : bs.contains b = true := by simpa using hbs1 b l hl
   rw [h1]; simp only [Option.map_some, this, Bool.or_true]
  | false =>
   have h1 := he.hpf hl
   have h2 : lk σ'.heap b = some (false, l) := h1
   have : bs.contains b = false := by
    cases hc : bs.contains b with
    | false => rfl
    | true =>
     obtain ⟨l', h3⟩ := hbs2 b (by simpa using hc)
     rw [hl] at h3; cases h3
   rw [h2]; simp only [Option.map_some, this, Bool.or_false]
 refine ⟨_, { hfr with size := ?_, env := ?_, keys := ?_, rd := ?_, live := ?_, froz := ?_, fd := hfd, nilb := ?_, stay := fun b h1 h2 hb => h.stay b h1 h2 fun e => hb (he.a0f e), small := by rw [← he.n]; exact h.small }⟩
 ·rw [h.size, he.n]
 ·intro t x hx
  have h1 := hfr.get t
  rw [nj, he.get] at h1
  unfold St.get at h1
  rw [hx] at h1
  exact h1
 ·intro b hb
  have h1 := h.keys b hb
  intro e
  exact h1 (he.hpn e)
 ·exact fun b k fr l hb hl => hfr.rd b k fr l hb (hflag b fr l hl)
 ·exact fun b k l hb hl => hfr.live b k l hb (hflag b _ l hl)
 ·exact fun b k l hb hl => hfr.froz b k l hb (hflag b _ l hl)
 ·exact fun b fr l hb hl => hfr.nilb b fr l hb (hflag b fr l hl)
theorem adv (hT : b6 P T) (hm : P.follows .mixedOrders = true) {id : Nat} {σ : St} (hok : akx T rf ops = true) (hd : ∀ o ∈ ops.toList, ∀ d, o.dst = some d → d < σ.n) {Q : Exit → Act → World → Prop} {K : St → Prop}
  (hR : ∀ τ, K τ → ∀ σs : Nat → St, (∀ i o, ops[i]? = some o → lg P G T ops o (σs i) (σs (i + 1))) → Eqv (σs ops.size) τ → ∀ i j x y b, ops[i]? = some x → ops[j]? = some y → rf i j = true → stb G x (σs i) b → ab3 G y (σs j) b → False)
  (hQ : ∀ a w, z5 G w0 M S0 σ.n K a w → Q .normal a w) (hrel : Rel G w0 M S0 σ a w β S) (h : zo P G T ops ops.toList σ K) : (Code.region id ops true).wp P Q a w := by
 simp only [akx, Bool.and_eq_true] at hok
 obtain ⟨hok1, hok2⟩ := hok
 obtain ⟨σs, h0, ⟨τ, hK, e1, e2⟩, hst0⟩ := yc ops.toList σ (fun o ho => List.all_eq_true.1 hok2 o ho) h
 have hst : ∀ i o, ops[i]? = some o → lg P G T ops o (σs i) (σs (i + 1)) := fun i o ho => hst0 i o (by simpa using ho)
 have hsp := fun k o => ad2 (ops := ops) (acx ops.toList [] (by simp) (by intro p i h; simp at h)) ops.toList 0 (by simp) hok1 k o (Nat.zero_le k)
 refine wp_region_any hm ?_
 have hdrew : Rel G w0 M S0 σ a { w with drawn := w.drawn + 1 } β S := hrel.olds (fun _ _ => rfl) rfl rfl rfl (Nat.le_refl _) (fun _ _ h => h) (fun _ _ h => .inl h)
 rw [← h0] at hdrew hd hQ
 refine ajs hT hst hsp (hR τ hK σs hst (by simpa using e1)) hd ?_ ops.size (Array.replicate ops.size false) a _ (σs 0) β S (by simp) ?_ ?_ hdrew ?_
 ·intro a' w' σ' β' S' hr he
  have he2 : Eqv σ' τ := he.trans (by simpa using e1)
  have e3 : Eqv τ (σs ops.size) := by simpa using e2
  have hfd0 : FD (σs 0) := by
   intro b l hl
   rw [h0] at hl
   exact hrel.fd b l hl
  have hfdn : FD (σs ops.size) := by
   have := m5 hst (Q := FD) (a := 0) (fun i o _ ho h => as9 (hst i o ho) h) hfd0 ops.size (by omega)
   rwa [Nat.zero_add] at this
  have hfdt : FD τ := by
   intro b l hl
   have e4 : Eqv (σs ops.size) τ := by simpa using e1
   have hc := e3.ct b
   rw [hl] at hc
   cases hb : lk (σs ops.size).heap b with
   | none => rw [hb] at hc; cases hc
   | some y =>
    obtain ⟨fr, l2⟩ := y
    rw [hb] at hc
    simp only [Option.map_some, Option.some.injEq] at hc
    cases fr with
    | true => rw [hc]; exact hfdn b l2 hb
    | false =>
     obtain ⟨l3, h3⟩ := e3.fl b l2 hb
     rw [hl] at h3; cases h3
  obtain ⟨S2, hrel2⟩ := hr.azb he2 hfdt
  exact hQ a' w' ⟨τ, β', S2, hK, hrel2, by rw [e3.n, apr hst (Nat.le_refl _)]⟩
 ·unfold ot
  have : (List.range ops.size).filter (fun i => !(Array.replicate ops.size false).getD i false) = List.range ops.size := by
   refine List.filter_eq_self.2 fun i hi => ?_
   simp [Array.getD_eq_getD_getElem?, Array.getElem?_replicate]
   split <;> rfl
  rw [this]; simp
 ·intro k o hk
  exfalso
  simp [Array.getD_eq_getD_getElem?, Array.getElem?_replicate] at hk
  split at hk <;> cases hk
 ·have : (fun i => (Array.replicate ops.size false).getD i false = true) = fun _ => False := by
   funext i
   simp only [eq_iff_iff, iff_false]
   intro hk
   simp [Array.getD_eq_getD_getElem?, Array.getElem?_replicate] at hk
   split at hk <;> cases hk
  rw [this]
  exact cw.start hst
theorem z7 (hT : b6 P T) (hm : P.follows .mixedOrders = true) {id : Nat} {σ : St} (hok : apy T ops = true) (hd : ∀ o ∈ ops.toList, ∀ d, o.dst = some d → d < σ.n) {Q : Exit → Act → World → Prop} {K : St → Prop}
  (hQ : ∀ a w, z5 G w0 M S0 σ.n K a w → Q .normal a w) (hrel : Rel G w0 M S0 σ a w β S) (h : zo P G T ops ops.toList σ K) : (Code.region id ops true).wp P Q a w :=
 adv (rf := fun _ _ => false) hT hm hok hd (fun _ _ _ _ _ _ _ _ _ _ _ _ h => by cases h) hQ hrel h
def amn : A → Option (List Nat)
 | .ptr b _ => some [b]
 | .own b _ _ _ => some [b]
 | .d _ => some []
 | .elem _ => some []
 | .agg _ => none
 | .fn _ _ => none
theorem aac {a : A} {l : List Nat} {b : Nat} (h : amn a = some l) (hr : cv a b) : b ∈ l := by
 cases a <;> simp only [amn, Option.some.injEq, cv] at h hr
 ·subst h hr; simp
 ·subst h hr; simp
 ·cases h
 ·cases h
def aou (x y : A) : Bool := match amn x, amn y with
 | some k, some l => k.all fun b => !l.contains b
 | _, _ => false
theorem alu {x y : A} {b : Nat} (h : aou x y = true) (hx : cv x b) (hy : cv y b) : False := by
 unfold aou at h
 split at h
 ·rename_i k l hk hl
  have := List.all_eq_true.1 h b (aac hk hx)
  have h2 := aac hl hy
  simp [h2] at this
 ·cases h
def awa (G : bb) (ops : Array Oper) (τ : St) (i j : Nat) : Bool := match ops[i]?, ops[j]? with
 | some x, some y => match x.op with
  | .store _ a _ => y.op.operands.all fun q => aou (τ.ev G a) (τ.ev G q)
  | _ => false
 | _, _ => false
def aa4 (G : bb) (ops : Array Oper) (τ : St) : List (Nat × Nat) → Prop
 | [] => True
 | p :: ps => awa G ops τ p.1 p.2 = true ∧ aa4 G ops τ ps
def stays (ops : Array Oper) (i : Nat) : Bool := match ops[i]? with
 | some x => x.op.operands.all fun q => match q with
  | .tmp t => (ops.toList.drop i).all fun o => o.dst != some t
  | _ => true
 | none => false
def a47 (ops : Array Oper) : Bool := ops.toList.all fun o => kindOf o.op != 2 || ej o
def akw (T : Tab) (ops : Array Oper) (ps : List (Nat × Nat)) : Bool := akx T (fun i j => ps.contains (i, j)) ops && a47 ops && ps.all fun p => stays ops p.1 && stays ops p.2
theorem aa5 {ops : Array Oper} {τ : St} : ∀ {ps : List (Nat × Nat)}, aa4 G ops τ ps → ∀ p ∈ ps, awa G ops τ p.1 p.2 = true
 | [], _, p, hp => by cases hp
 | q :: ps, h, p, hp => by
  rcases List.mem_cons.1 hp with rfl | hp
  ·exact h.1
  ·exact aa5 h.2 p hp
theorem ahg {ops : Array Oper} {i : Nat} {x : Oper} (h : stays ops i = true) (hx : ops[i]? = some x) {t : Nat} (ht : Operand.tmp t ∈ x.op.operands) : ∀ k o, i ≤ k → ops[k]? = some o → o.dst ≠ some t := by
 intro k o hk ho
 unfold stays at h
 rw [hx] at h
 have h1 := Array.all_eq_true_iff_forall_mem.1 h _ ht
 have h2 : o ∈ ops.toList.drop i := by
  have : (ops.toList.drop i)[k - i]? = some o := by
   rw [List.getElem?_drop, show i + (k - i) = k by omega]; simpa using ho
  exact List.mem_of_getElem? this
 have := List.all_eq_true.1 h1 o h2
 simpa using this
theorem ab7 {ops : Array Oper} {σs : Nat → St} {τ : St} {i : Nat} {x : Oper} (hst : ∀ i o, ops[i]? = some o → lg P G T ops o (σs i) (σs (i + 1))) (hn : a47 ops = true) (h : stays ops i = true) (hx : ops[i]? = some x) (he : Eqv (σs ops.size) τ) {q : Operand} (hq : q ∈ x.op.operands) : τ.ev G q = (σs i).ev G q := by
 cases q with
 | tmp t =>
  have hi : i < ops.size := by
   rcases Nat.lt_or_ge i ops.size with h | h
   ·exact h
   ·simp [Array.getElem?_eq_none h] at hx
  have h1 := vj hst (a := i) (m := ops.size) (t := t) (Nat.le_of_lt hi) (Nat.le_refl _) (fun k hk hk2 htc => by
   obtain ⟨o, ho, hto⟩ := htc
   rcases hto with hto | hto
   ·exact ahg h hx hq k o hk ho hto
   ·have hmem : o ∈ ops.toList := by
     have : ops.toList[k]? = some o := by simpa using ho
     exact List.mem_of_getElem? this
    have := List.all_eq_true.1 hn o hmem
    simp [hto.1, hto.2] at this)
  have h2 := he.get t
  show τ.get t = (σs i).get t
  rw [← h1, h2]
 | _ => rfl
structure b7 (p q : Prop) : Prop where
 p : p
 q : q
theorem apj (hT : b6 P T) (hm : P.follows .mixedOrders = true) {id : Nat} {σ : St} {ps : List (Nat × Nat)} (hok : akw T ops ps = true) (hd : ∀ o ∈ ops.toList, ∀ d, o.dst = some d → d < σ.n) {Q : Exit → Act → World → Prop} {K : St → Prop}
  (hQ : ∀ a w, z5 G w0 M S0 σ.n K a w → Q .normal a w) (hrel : Rel G w0 M S0 σ a w β S) (h : zo P G T ops ops.toList σ (fun τ => b7 (aa4 G ops τ ps) (K τ))) : (Code.region id ops true).wp P Q a w := by
 simp only [akw, Bool.and_eq_true] at hok
 obtain ⟨⟨hok, hn⟩, hs⟩ := hok
 refine adv (rf := fun i j => ps.contains (i, j)) (K := fun τ => b7 (aa4 G ops τ ps) (K τ)) hT hm hok hd ?_ (fun a w hp => hQ a w ?_) hrel h
 ·rintro τ ⟨hτ, _⟩ σs hst he i j x y b hx hy hp hb ⟨q, hq, hqb⟩
  have hp : (i, j) ∈ ps := by simpa using hp
  have h1 := aa5 hτ _ hp
  have h2 := List.all_eq_true.1 hs _ hp
  simp only [Bool.and_eq_true] at h2
  unfold awa at h1
  simp only [hx, hy] at h1
  unfold stb at hb
  split at hb
  ·rename_i t a v hop
   rw [hop] at h1
   simp only at h1
   have h3 := Array.all_eq_true_iff_forall_mem.1 h1 q hq
   rw [ab7 hst hn h2.1 hx he (by rw [hop]; simp [Op.operands]), ab7 hst hn h2.2 hy he hq] at h3
   exact alu h3 hb hqb
  ·exact hb
 ·obtain ⟨σ', β', S', ⟨_, hk⟩, h1, h2⟩ := hp
  exact ⟨σ', β', S', hk, h1, h2⟩
end
end Go.Ev
