/- Regions that draw their order, in whatever order. -/
import Derived.Test.YtmgbegcamhkblaaDoorEvN
set_option linter.unusedSimpArgs false
set_option linter.unusedVariables false
namespace Go.Ev
open Go
section
variable {T : Tab} {P : Program} {G : Glob} {ops : Array Oper} {σs : Nat → St}

def StepAt (P : Program) (G : Glob) (T : Tab) (ops : Array Oper) (o : Oper) (σ τ' : St) : Prop := ∃ τ, StepOk P G T ops o σ τ ∧ Eqv τ τ' ∧ Eqv τ' τ ∧ τ'.heap = τ.heap

/-- Which operations touch a slot, a block's cells. -/
def touch (ops : Array Oper) (i t : Nat) : Prop := ∃ o, ops[i]? = some o ∧ (o.dst = some t ∨ (kindOf o.op = 2 ∧ isSt o = false))
def touchC (ops : Array Oper) (σs : Nat → St) (i b : Nat) : Prop := ∃ o, ops[i]? = some o ∧ (kindOf o.op = 2 ∨ (kindOf o.op = 1 ∧ o.dst = some b ∧ guardYes ops o (σs i)))

def ct (σ : St) (b : Nat) : Option (List A) := (lk σ.heap b).map (·.2)

theorem guard_not_both {o : Oper} {σ : St} (h1 : guardYes ops o σ) (h2 : guardNo ops o σ) : False := by
  obtain ⟨j, want, g, e1, e2, e3⟩ := h2
  rcases h1 with h1 | ⟨j', want', g', e4, e5, e6⟩
  · rw [h1] at e1; cases e1
  · rw [e1] at e4
    cases e4
    rw [e2] at e5; cases e5
    rw [e6] at e3
    rcases e3 with e3 | e3
    · simp only [A.d.injEq, D.bool.injEq] at e3
      cases want <;> cases e3
    · cases e3

theorem put_get_ne {σ : St} {d : Option Nat} {r : A} {t : Nat} (h : d ≠ some t) : (σ.put d r).get t = σ.get t := by
  cases d with
  | none => rfl
  | some d => rw [get_put, if_neg (fun e => h (by rw [e]))]
theorem put_heap (σ : St) (d : Option Nat) (r : A) : (σ.put d r).heap = σ.heap := by cases d <;> rfl
theorem put_n (σ : St) (d : Option Nat) (r : A) : (σ.put d r).n = σ.n := by cases d <;> rfl

theorem wr_lk (σ : St) (b : Nat) (l : List A) (k : Nat) : lk (σ.wr b l).heap k = if k = b then (lk σ.heap k).map fun x => (x.1, l) else lk σ.heap k := lk_hset _ _ _ _
theorem hset_true {σ : St} {b b' : Nat} {l row : List A} (hl : lk σ.heap b = some (true, l)) : ∃ l', lk (σ.wr b' row).heap b = some (true, l') := by
  rw [wr_lk]; split
  · rw [hl]; exact ⟨row, rfl⟩
  · exact ⟨l, hl⟩
theorem hset_keys {σ : St} {b b' : Nat} {row : List A} (hl : lk σ.heap b ≠ none) : lk (σ.wr b' row).heap b ≠ none := by
  rw [wr_lk]; split
  · intro e; exact hl (by simpa using e)
  · exact hl
theorem hset_fd {σ : St} {b b' : Nat} {l' l row : List A} (hb : lk σ.heap b' = some (false, l')) (hl : lk (σ.wr b' row).heap b = some (true, l)) (hf : ∀ l, lk σ.heap b = some (true, l) → ∃ ds : List D, l = ds.map A.d) : ∃ ds : List D, l = ds.map A.d := by
  rw [wr_lk] at hl; split at hl
  · rename_i e; subst e; rw [hb] at hl; cases hl
  · exact hf l hl
theorem step_get {o : Oper} {σ τ : St} (h : StepAt P G T ops o σ τ) {t : Nat} (h1 : o.dst ≠ some t) (h2 : ¬ (kindOf o.op = 2 ∧ isSt o = false)) : τ.get t = σ.get t := by
  obtain ⟨τ0, h, _, he, _⟩ := h
  rw [he.get]
  cases h with
  | skip hg h => rw [h, put_get_ne h1]
  | lt hg hl r h t => rw [h, put_get_ne h1]
  | st hg hs b l row hb h t => rw [h]; rfl
  | val hg hk hl r h t => rw [h, put_get_ne h1]
  | new hg hk d hd r l hf h t => rw [h, put_get_ne (by rw [← hd]; exact h1)]; rfl
  | call hg hk fresh r bs hb h t =>
    rw [h, put_get_ne h1]
    cases fresh
    · exact freeze_get _ _ _
    · rfl
  | wr hg hk hs => exact absurd ⟨hk, hs⟩ h2
theorem step_n {o : Oper} {σ τ : St} (h : StepAt P G T ops o σ τ) : τ.n = σ.n := by
  obtain ⟨τ0, h, _, he, _⟩ := h
  rw [he.n]
  cases h with
  | skip hg h => rw [h, put_n]
  | lt hg hl r h t => rw [h, put_n]
  | st hg hs b l row hb h t => rw [h]; rfl
  | val hg hk hl r h t => rw [h, put_n]
  | new hg hk d hd r l hf h t => rw [h, put_n]; rfl
  | call hg hk fresh r bs hb h t =>
    rw [h, put_n]
    cases fresh
    · exact freeze_n _ _
    · rfl
  | wr hg hk hs hn => exact hn
theorem step_ct {o : Oper} {σ τ : St} (h : StepAt P G T ops o σ τ) {b : Nat} (h1 : kindOf o.op ≠ 2) (h2 : ¬ (kindOf o.op = 1 ∧ o.dst = some b ∧ guardYes ops o σ)) : ct τ b = ct σ b := by
  obtain ⟨τ0, h, _, he, hh⟩ := h
  unfold ct
  rw [hh]
  cases h with
  | skip hg h => rw [h, put_heap]
  | lt hg hl r h t => rw [h, put_heap]
  | st hg hs b l row hb h t => exact absurd (isSt_spec hs).1 h1
  | val hg hk hl r h t => rw [h, put_heap]
  | new hg hk d hd r l hf h t =>
    rw [h, put_heap]
    simp only [St.new, lk]
    rw [if_neg]
    rintro rfl
    exact h2 ⟨hk, hd, hg⟩
  | call hg hk fresh r bs hb h t =>
    rw [h, put_heap]
    cases fresh
    · simp only [Bool.false_eq_true, if_false, freeze_lk, Option.map_map]; rfl
    · rfl
  | wr hg hk => exact absurd hk h1
theorem step_true {o : Oper} {σ τ : St} (h : StepAt P G T ops o σ τ) {b : Nat} {l : List A} (hl : lk σ.heap b = some (true, l)) : ∃ l', lk τ.heap b = some (true, l') := by
  obtain ⟨τ0, h, _, he, hh⟩ := h
  rw [hh]
  cases h with
  | skip hg h => rw [h, put_heap]; exact ⟨l, hl⟩
  | lt hg hl' r h t => rw [h, put_heap]; exact ⟨l, hl⟩
  | st hg hs b' l' row hb h t => rw [h]; exact hset_true hl
  | val hg hk hl' r h t => rw [h, put_heap]; exact ⟨l, hl⟩
  | new hg hk d hd r l' hf h t =>
    rw [h, put_heap]
    simp only [St.new, lk]
    rw [if_neg]
    · exact ⟨l, hl⟩
    · rintro rfl
      rw [hl] at hf; cases hf
  | call hg hk fresh r bs hb h t =>
    rw [h, put_heap]
    cases fresh
    · simp only [Bool.false_eq_true, if_false, freeze_lk, hl]; exact ⟨l, rfl⟩
    · exact ⟨l, hl⟩
  | wr hg hk hs hn mono keys fd t => exact mono b l hl
theorem step_keys {o : Oper} {σ τ : St} (h : StepAt P G T ops o σ τ) {b : Nat} (hl : lk σ.heap b ≠ none) : lk τ.heap b ≠ none := by
  obtain ⟨τ0, h, _, he, hh⟩ := h
  rw [hh]
  cases h with
  | skip hg h => rw [h, put_heap]; exact hl
  | lt hg hl' r h t => rw [h, put_heap]; exact hl
  | st hg hs b' l' row hb h t => rw [h]; exact hset_keys hl
  | val hg hk hl' r h t => rw [h, put_heap]; exact hl
  | new hg hk d hd r l' hf h t =>
    rw [h, put_heap]
    simp only [St.new, lk]
    split
    · simp
    · exact hl
  | call hg hk fresh r bs hb h t =>
    rw [h, put_heap]
    cases fresh
    · simp only [Bool.false_eq_true, if_false, freeze_lk]
      intro e; exact hl (by simpa using e)
    · exact hl
  | wr hg hk hs hn mono keys fd t => exact keys b hl

theorem step_fd {o : Oper} {σ τ : St} (h : StepAt P G T ops o σ τ) (hfd : FD σ) : FD τ := by
  obtain ⟨τ0, h, _, he, hh⟩ := h
  intro b l hl
  rw [hh] at hl
  cases h with
  | skip hg h => rw [h, put_heap] at hl; exact hfd b l hl
  | lt hg hl' r h t => rw [h, put_heap] at hl; exact hfd b l hl
  | st hg hs b' l' row hb h t => rw [h] at hl; exact hset_fd hb hl (hfd b)
  | val hg hk hl' r h t => rw [h, put_heap] at hl; exact hfd b l hl
  | new hg hk d hd r l' hf h t =>
    rw [h, put_heap] at hl
    simp only [St.new, lk] at hl
    split at hl
    · cases hl
    · exact hfd b l hl
  | call hg hk fresh r bs hb h t =>
    rw [h, put_heap] at hl
    cases fresh with
    | true => exact hfd b l hl
    | false =>
      simp only [Bool.false_eq_true, if_false, freeze_lk, Option.map_eq_some_iff] at hl
      obtain ⟨y, hy, e⟩ := hl
      obtain ⟨fr, l2⟩ := y
      simp only [Prod.mk.injEq] at e
      obtain ⟨e3, rfl⟩ := e
      cases fr with
      | true => exact hfd b l2 hy
      | false =>
        simp only [Bool.false_or, List.contains_iff_mem] at e3
        obtain ⟨fr', ds, hds⟩ := hb b e3
        rw [hy] at hds
        cases hds
        exact ⟨ds, rfl⟩
  | wr hg hk hs hn mono keys fd t => exact fd hfd b l hl

variable (hst : ∀ i o, ops[i]? = some o → StepAt P G T ops o (σs i) (σs (i + 1)))
include hst

theorem size_some {i : Nat} (h : i < ops.size) : ∃ o, ops[i]? = some o := by
  have _ := hst
  exact ⟨ops[i], by simp [h]⟩

theorem walk_up {Q : St → Prop} {a : Nat} (hs : ∀ i o, a ≤ i → ops[i]? = some o → Q (σs i) → Q (σs (i + 1))) (ha : Q (σs a)) : ∀ k, a + k ≤ ops.size → Q (σs (a + k))
  | 0, _ => ha
  | k + 1, hk => by
    obtain ⟨o, ho⟩ := size_some hst (i := a + k) (by omega)
    exact hs (a + k) o (by omega) ho (walk_up hs ha k (by omega))

theorem keys_up {a m b : Nat} (ham : a ≤ m) (hm : m ≤ ops.size) (h : lk (σs a).heap b ≠ none) : lk (σs m).heap b ≠ none := by
  have := walk_up hst (Q := fun σ => lk σ.heap b ≠ none) (a := a) (fun i o _ ho h => step_keys (hst i o ho) h) h (m - a) (by omega)
  rwa [show a + (m - a) = m by omega] at this
theorem true_up {a m b : Nat} (ham : a ≤ m) (hm : m ≤ ops.size) (h : ∃ l, lk (σs a).heap b = some (true, l)) : ∃ l, lk (σs m).heap b = some (true, l) := by
  have := walk_up hst (Q := fun σ => ∃ l, lk σ.heap b = some (true, l)) (a := a) (fun i o _ ho ⟨l, h⟩ => step_true (hst i o ho) h) h (m - a) (by omega)
  rwa [show a + (m - a) = m by omega] at this
theorem n_up {m : Nat} (hm : m ≤ ops.size) : (σs m).n = (σs 0).n := by
  have := walk_up hst (Q := fun σ => σ.n = (σs 0).n) (a := 0) (fun i o _ ho h => (step_n (hst i o ho)).trans h) rfl m (by omega)
  rwa [Nat.zero_add] at this
/-- Nothing turns where nothing touches. -/
theorem get_up {a m t : Nat} (ham : a ≤ m) (hm : m ≤ ops.size) (h : ∀ i, a ≤ i → i < m → ¬ touch ops i t) : (σs m).get t = (σs a).get t := by
  obtain ⟨k, rfl⟩ : ∃ k, m = a + k := ⟨m - a, by omega⟩
  clear ham
  induction k with
  | zero => rfl
  | succ k ih =>
    have hk := ih (by omega) (fun i h1 h2 => h i h1 (by omega))
    obtain ⟨o, ho⟩ := size_some hst (i := a + k) (by omega)
    have hn := h (a + k) (by omega) (by omega)
    rw [← Nat.add_assoc, step_get (hst _ o ho) (fun e => hn ⟨o, ho, .inl e⟩) (fun e => hn ⟨o, ho, .inr e⟩), hk]
theorem ct_up {a m b : Nat} (ham : a ≤ m) (hm : m ≤ ops.size) (h : ∀ i, a ≤ i → i < m → ¬ touchC ops σs i b) : ct (σs m) b = ct (σs a) b := by
  obtain ⟨k, rfl⟩ : ∃ k, m = a + k := ⟨m - a, by omega⟩
  clear ham
  induction k with
  | zero => rfl
  | succ k ih =>
    have hk := ih (by omega) (fun i h1 h2 => h i h1 (by omega))
    obtain ⟨o, ho⟩ := size_some hst (i := a + k) (by omega)
    have hn := h (a + k) (by omega) (by omega)
    rw [← Nat.add_assoc, step_ct (hst _ o ho) (fun e => hn ⟨o, ho, .inl e⟩) (fun e => hn ⟨o, ho, .inr e⟩), hk]

/-- What has been done so far is of one mind with the text's order. -/
structure Mind (L : Nat → Prop) (σE : St) : Prop where
  n : σE.n = (σs 0).n
  get : ∀ t m, m ≤ ops.size → (∀ i, i < ops.size → touch ops i t → (L i ↔ i < m)) → σE.get t = (σs m).get t
  ct : ∀ b m, m ≤ ops.size → (∀ i, i < ops.size → touchC ops σs i b → (L i ↔ i < m)) → Ev.ct σE b = Ev.ct (σs m) b
  fl : ∀ m, m ≤ ops.size → (∀ i x, ops[i]? = some x → lite x = false → L i → i < m) → ∀ b l, lk (σs m).heap b = some (false, l) → ∀ l', lk σE.heap b ≠ some (true, l')

variable {L : Nat → Prop} {σE : St} {j : Nat} {o : Oper}
theorem Mind.start : Mind (ops := ops) (σs := σs) (fun _ => False) (σs 0) := by
  refine ⟨rfl, fun t m hm h => ?_, fun b m hm h => ?_, fun m hm _ b l hl l' h0 => ?_⟩
  · exact (get_up hst (Nat.zero_le m) hm fun i _ hi ht => (h i (by omega) ht).2 hi).symm
  · exact (ct_up hst (Nat.zero_le m) hm fun i _ hi ht => (h i (by omega) ht).2 hi).symm
  · obtain ⟨l2, h2⟩ := true_up hst (Nat.zero_le m) hm ⟨l', h0⟩
    rw [hl] at h2; cases h2

omit hst in
theorem confl_of_touch {x o : Oper} {t : Nat} (hx : x.dst = some t ∨ (kindOf x.op = 2 ∧ isSt x = false)) (ht : t ∈ o.looksAt ops ∨ o.dst = some t) : confl ops x o = true := by
  rcases hx with hx | hx
  · unfold confl
    have : x.apart ops o = false := by
      cases ha : x.apart ops o with
      | false => rfl
      | true =>
        obtain ⟨h1, h2, _⟩ := Oper.apart_spec ha
        rcases ht with ht | ht
        · exact absurd ht (h1 t hx)
        · exact absurd ht (h2 t hx)
    simp [this]
  · exact (confl_wr hx.1 (.inl hx.2)).1

variable (hj : ops[j]? = some o) (hnj : ¬ L j) (ord1 : ∀ i x, i < j → ops[i]? = some x → confl ops x o = true → L i) (ord2 : ∀ i x, j < i → ops[i]? = some x → confl ops x o = true → ¬ L i)
include hj hnj ord1 ord2

omit hst in
/-- The touchers of what the operation looks at have been done just as in the text. -/
theorem cons_at {t : Nat} (ht : t ∈ o.looksAt ops ∨ o.dst = some t) : ∀ i, i < ops.size → touch ops i t → (L i ↔ i < j) := by
  rintro i hi ⟨x, hx, hxt⟩
  have hc := confl_of_touch (ops := ops) hxt ht
  rcases Nat.lt_trichotomy i j with h | h | h
  · exact ⟨fun _ => h, fun _ => ord1 i x h hx hc⟩
  · subst h; exact ⟨fun h => absurd h hnj, fun h => absurd h (Nat.lt_irrefl _)⟩
  · exact ⟨fun hL => absurd hL (ord2 i x h hx hc), fun h' => by omega⟩
omit hst in
theorem cons_all (hk : kindOf o.op = 2) (hs : isSt o = false) : ∀ i, i < ops.size → (L i ↔ i < j) := by
  intro i hi
  obtain ⟨x, hx⟩ : ∃ x, ops[i]? = some x := ⟨ops[i], by simp [hi]⟩
  have hc : confl ops x o = true := (confl_wr hk (.inl hs)).2
  rcases Nat.lt_trichotomy i j with h | h | h
  · exact ⟨fun _ => h, fun _ => ord1 i x h hx hc⟩
  · subst h; exact ⟨fun h => absurd h hnj, fun h => absurd h (Nat.lt_irrefl _)⟩
  · exact ⟨fun hL => absurd hL (ord2 i x h hx hc), fun h' => by omega⟩

theorem lt_size : j < ops.size := by
  have _ := hst
  have _ := hnj
  have _ := ord1
  have _ := ord2
  rcases Nat.lt_or_ge j ops.size with h | h
  · exact h
  · simp [Array.getElem?_eq_none h] at hj

theorem Mind.step (hM : Mind (ops := ops) (σs := σs) L σE) (hk : kindOf o.op ≠ 2) {σE' : St} (hn : σE'.n = σE.n) (hget1 : ∀ t, o.dst = some t → σE'.get t = (σs (j + 1)).get t) (hget2 : ∀ t, o.dst ≠ some t → σE'.get t = σE.get t)
    (hct1 : ∀ b, kindOf o.op = 1 ∧ o.dst = some b ∧ guardYes ops o (σs j) → Ev.ct σE' b = Ev.ct (σs (j + 1)) b) (hct2 : ∀ b, ¬ (kindOf o.op = 1 ∧ o.dst = some b ∧ guardYes ops o (σs j)) → Ev.ct σE' b = Ev.ct σE b)
    (hfl : ∀ b l', lk σE'.heap b = some (true, l') → (∃ l, lk σE.heap b = some (true, l)) ∨ (lite o = false ∧ ∃ l, lk (σs (j + 1)).heap b = some (true, l))) : Mind (ops := ops) (σs := σs) (fun i => L i ∨ i = j) σE' := by
  have hjs := lt_size hst hj hnj ord1 ord2
  refine ⟨hn.trans hM.n, fun t m hm h => ?_, fun b m hm h => ?_, fun m hm h b l hl l' h0 => ?_⟩
  · by_cases ht : o.dst = some t
    · rw [hget1 t ht]
      have hjm : j < m := (h j hjs ⟨o, hj, .inl ht⟩).1 (.inr rfl)
      refine (get_up hst hjm hm fun i h1 h2 htc => ?_).symm
      obtain ⟨x, hx, hxt⟩ := htc
      have hL := (h i (by omega) ⟨x, hx, hxt⟩).2 h2
      rcases hL with hL | hL
      · exact ord2 i x (by omega) hx (confl_of_touch hxt (.inr ht)) hL
      · omega
    · rw [hget2 t ht]
      refine hM.get t m hm fun i hi htc => ?_
      have := h i hi htc
      have hne : i ≠ j := by
        rintro rfl
        obtain ⟨x, hx, hxt⟩ := htc
        rw [hj] at hx; cases hx
        rcases hxt with hxt | hxt
        · exact ht hxt
        · exact hk hxt.1
      exact ⟨fun hL => this.1 (.inl hL), fun hlt => (this.2 hlt).resolve_right hne⟩
  · by_cases hb : kindOf o.op = 1 ∧ o.dst = some b ∧ guardYes ops o (σs j)
    · rw [hct1 b hb]
      have hjm : j < m := (h j hjs ⟨o, hj, .inr hb⟩).1 (.inr rfl)
      refine (ct_up hst hjm hm fun i h1 h2 htc => ?_).symm
      obtain ⟨x, hx, hxt⟩ := htc
      have hL := (h i (by omega) ⟨x, hx, hxt⟩).2 h2
      rcases hL with hL | hL
      · refine ord2 i x (by omega) hx ?_ hL
        rcases hxt with hxt | hxt
        · exact (confl_wr hxt (.inr (by cases hl : lite o with | false => rfl | true => have := lite_kind hl; omega))).1
        · exact confl_of_touch (t := b) (.inl hxt.2.1) (.inr hb.2.1)
      · omega
    · rw [hct2 b hb]
      refine hM.ct b m hm fun i hi htc => ?_
      have := h i hi htc
      have hne : i ≠ j := by
        rintro rfl
        obtain ⟨x, hx, hxt⟩ := htc
        rw [hj] at hx; cases hx
        rcases hxt with hxt | hxt
        · exact hk hxt
        · exact hb hxt
      exact ⟨fun hL => this.1 (.inl hL), fun hlt => (this.2 hlt).resolve_right hne⟩
  · rcases hfl b l' h0 with ⟨l2, h2⟩ | ⟨hlt, h2⟩
    · exact hM.fl m hm (fun i x hx hlx hL => h i x hx hlx (.inl hL)) b l hl l2 h2
    · have hjm : j < m := h j o hj hlt (.inr rfl)
      obtain ⟨l3, h3⟩ := true_up hst hjm hm h2
      rw [hl] at h3; cases h3

theorem Mind.eqvW (hM : Mind (ops := ops) (σs := σs) L σE) (hk : kindOf o.op = 2) (hs : isSt o = false) : Eqv σE (σs j) := by
  have hjs := lt_size hst hj hnj ord1 ord2
  have hall := cons_all hj hnj ord1 ord2 hk hs
  refine ⟨hM.n.trans (n_up hst (Nat.le_of_lt hjs)).symm, fun t => hM.get t j (Nat.le_of_lt hjs) fun i hi _ => hall i hi, fun b => hM.ct b j (Nat.le_of_lt hjs) fun i hi _ => hall i hi, fun b l hl => ?_⟩
  have h1 := hM.ct b j (Nat.le_of_lt hjs) fun i hi _ => hall i hi
  have h2 := hM.fl j (Nat.le_of_lt hjs) (fun i x hx _ hL => (hall i (by rcases Nat.lt_or_ge i ops.size with h | h <;> simp_all)).1 hL) b l hl
  unfold Ev.ct at h1
  rw [hl] at h1
  simp only [Option.map_some, Option.map_eq_some_iff] at h1
  obtain ⟨y, hy, e⟩ := h1
  obtain ⟨fr, l3⟩ := y
  cases fr with
  | true => exact absurd hy (h2 l3)
  | false => exact ⟨l3, hy⟩

theorem Mind.stepW (hk : kindOf o.op = 2) (hs : isSt o = false) {σE' : St} (he : Eqv σE' (σs (j + 1))) : Mind (ops := ops) (σs := σs) (fun i => L i ∨ i = j) σE' := by
  have hjs := lt_size hst hj hnj ord1 ord2
  have hall := cons_all hj hnj ord1 ord2 hk hs
  have hall' : ∀ i, i < ops.size → ((L i ∨ i = j) ↔ i < j + 1) := by
    intro i hi
    rw [hall i hi]
    omega
  refine ⟨he.n.trans (n_up hst hjs), fun t m hm h => ?_, fun b m hm h => ?_, fun m hm h b l hl l' h0 => ?_⟩
  · rw [he.get]
    rcases Nat.le_total (j + 1) m with hle | hle
    · refine (get_up hst hle hm fun i h1 h2 ht => ?_).symm
      have := (hall' i (by omega)).1 ((h i (by omega) ht).2 h2)
      omega
    · refine get_up hst hle hjs fun i h1 h2 ht => ?_
      have := (h i (by omega) ht).1 ((hall' i (by omega)).2 h2)
      omega
  · have hct : Ev.ct σE' b = Ev.ct (σs (j + 1)) b := he.ct b
    rw [hct]
    rcases Nat.le_total (j + 1) m with hle | hle
    · refine (ct_up hst hle hm fun i h1 h2 ht => ?_).symm
      have := (hall' i (by omega)).1 ((h i (by omega) ht).2 h2)
      omega
    · refine ct_up hst hle hjs fun i h1 h2 ht => ?_
      have := (h i (by omega) ht).1 ((hall' i (by omega)).2 h2)
      omega
  · have hjm : j < m := h j o hj (by cases hl : lite o with | false => rfl | true => have := lite_kind hl; rw [hk] at this; cases this) (.inr rfl)
    have hct := he.ct b
    rw [h0] at hct
    cases hb : lk (σs (j + 1)).heap b with
    | none => rw [hb] at hct; cases hct
    | some y =>
      obtain ⟨fr, l2⟩ := y
      cases fr with
      | false =>
        obtain ⟨l3, h3⟩ := he.fl b l2 hb
        rw [h0] at h3; cases h3
      | true =>
        obtain ⟨l3, h3⟩ := true_up hst hjm hm ⟨l2, hb⟩
        rw [hl] at h3; cases h3
/-- What a store's block holds, and all others, is as in the text. -/
theorem Mind.ctS (hM : Mind (ops := ops) (σs := σs) L σE) (hs : isSt o = true) (b : Nat) : Ev.ct σE b = Ev.ct (σs j) b := by
  have hjs := lt_size hst hj hnj ord1 ord2
  refine hM.ct b j (Nat.le_of_lt hjs) fun i hi ⟨x, hx, hxt⟩ => ?_
  have hc : confl ops x o = true := by
    refine (confl_wr (isSt_spec hs).1 (.inr ?_)).2
    cases hl : lite x with
    | false => rfl
    | true =>
      have := lite_kind hl
      rcases hxt with hxt | hxt
      · omega
      · omega
  rcases Nat.lt_trichotomy i j with h | h | h
  · exact ⟨fun _ => h, fun _ => ord1 i x h hx hc⟩
  · subst h; exact ⟨fun h => absurd h hnj, fun h => absurd h (Nat.lt_irrefl _)⟩
  · exact ⟨fun hL => absurd hL (ord2 i x h hx hc), fun h' => by omega⟩
theorem Mind.stepS (hM : Mind (ops := ops) (σs := σs) L σE) (hs : isSt o = true) {σE' : St} (hn : σE'.n = σE.n) (hget : ∀ t, σE'.get t = σE.get t) (hct : ∀ b, Ev.ct σE' b = Ev.ct (σs (j + 1)) b)
    (hfl : ∀ b l', lk σE'.heap b = some (true, l') → ∃ l, lk σE.heap b = some (true, l)) : Mind (ops := ops) (σs := σs) (fun i => L i ∨ i = j) σE' := by
  have hjs := lt_size hst hj hnj ord1 ord2
  obtain ⟨hk, hd, _⟩ := isSt_spec hs
  refine ⟨hn.trans hM.n, fun t m hm h => ?_, fun b m hm h => ?_, fun m hm h b l hl l' h0 => ?_⟩
  · rw [hget t]
    refine hM.get t m hm fun i hi htc => ?_
    have := h i hi htc
    have hne : i ≠ j := by
      rintro rfl
      obtain ⟨x, hx, hxt⟩ := htc
      rw [hj] at hx; cases hx
      rcases hxt with hxt | hxt
      · rw [hd] at hxt; cases hxt
      · rw [hs] at hxt; exact absurd hxt.2 (by decide)
    exact ⟨fun hL => this.1 (.inl hL), fun hlt => (this.2 hlt).resolve_right hne⟩
  · rw [hct b]
    have hjm : j < m := (h j hjs ⟨o, hj, .inl hk⟩).1 (.inr rfl)
    refine (ct_up hst hjm hm fun i h1 h2 htc => ?_).symm
    obtain ⟨x, hx, hxt⟩ := htc
    have hL := (h i (by omega) ⟨x, hx, hxt⟩).2 h2
    rcases hL with hL | hL
    · refine ord2 i x (by omega) hx ((confl_wr hk (.inr ?_)).2) hL
      cases hl : lite x with
      | false => rfl
      | true =>
        have := lite_kind hl
        rcases hxt with hxt | hxt
        · omega
        · omega
    · omega
  · obtain ⟨l2, h2⟩ := hfl b l' h0
    exact hM.fl m hm (fun i x hx hlx hL => h i x hx hlx (.inl hL)) b l hl l2 h2
end
end Go.Ev
