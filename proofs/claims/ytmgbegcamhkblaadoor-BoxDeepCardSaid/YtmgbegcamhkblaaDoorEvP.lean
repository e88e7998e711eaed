/- Regions that draw their order: whatever is drawn, the text's order tells what comes of it. -/
import Derived.Test.YtmgbegcamhkblaaDoorEvO
set_option linter.unusedSimpArgs false
set_option linter.unusedVariables false
namespace Go.Ev
open Go
section
variable {T : Tab} {P : Program} {G : Glob} {ops : Array Oper} {σs : Nat → St}
variable {w0 : World} {M : Own} {S0 : Imm} {a : Act} {w : World} {β : Own} {S : Imm} {L : Nat → Prop} {σE : St} {j : Nat} {o : Oper}

theorem wanted_yes (h : Rel G w0 M S0 σE a w β S) (hg : guardYes ops o σE) : Region.wanted o (yielded ops a.tmps) = true := by
  rcases hg with hg | ⟨k, want, g, h1, h2, h3⟩
  · simp [Region.wanted, hg]
  · have hv := h.get g
    rw [h3] at hv
    simp only [AR, DR] at hv
    have hy : yielded ops a.tmps k = some want := by
      unfold yielded
      unfold gtmp at h2
      rw [h2]
      rw [Array.getD_eq_getD_getElem?] at hv
      cases hq : a.tmps[g]? with
      | none => rw [hq] at hv; simp [undef] at hv
      | some u => rw [hq] at hv; simp at hv; simp [hq, hv]
    simp [Region.wanted, h1, hy]
theorem wanted_no (h : Rel G w0 M S0 σE a w β S) (hg : guardNo ops o σE) : Region.wanted o (yielded ops a.tmps) = false := by
  obtain ⟨k, want, g, h1, h2, h3⟩ := hg
  have hv := h.get g
  rcases h3 with h3 | h3
  · rw [h3] at hv
    simp only [AR, DR] at hv
    have hy : yielded ops a.tmps k = some (!want) := by
      unfold yielded
      unfold gtmp at h2
      rw [h2]
      rw [Array.getD_eq_getD_getElem?] at hv
      cases hq : a.tmps[g]? with
      | none => rw [hq] at hv; simp [undef] at hv
      | some u => rw [hq] at hv; simp at hv; simp [hq, hv]
    simp only [Region.wanted, h1, hy]
    cases want <;> rfl
  · rw [h3] at hv
    simp only [AR, DR, DRs] at hv
    obtain ⟨vs, hv, hvs⟩ := hv
    have hy : yielded ops a.tmps k = none := by
      unfold yielded
      unfold gtmp at h2
      rw [h2]
      rw [Array.getD_eq_getD_getElem?] at hv
      cases hq : a.tmps[g]? with
      | none => simp [hq]
      | some u => rw [hq] at hv; simp at hv; subst hv; simp [hq]
    simp [Region.wanted, h1, hy]

mutual
theorem AR_refs : ∀ {x : A} {v : Value} {b : Nat}, AR β S w x v → refs1 x b → β b ≠ none
  | .ptr c o, v, b, h, hr => by
    simp only [refs1] at hr
    subst hr
    simp only [AR] at h
    obtain ⟨k, hk, _⟩ := h
    rw [hk]; simp
  | .own c o n sz, v, b, h, hr => by
    simp only [refs1] at hr
    subst hr
    simp only [AR] at h
    rcases h with ⟨k, hk, _⟩ | ⟨_, hk, _⟩
    · rw [hk]; simp
    · exact hk
  | .d _, v, b, h, hr => by simp only [refs1] at hr
  | .elem _, v, b, h, hr => by simp only [refs1] at hr
  | .agg l, v, b, h, hr => by
    simp only [refs1] at hr
    simp only [AR] at h
    obtain ⟨vs, _, h⟩ := h
    exact ARs_refs h hr
theorem ARs_refs : ∀ {l : List A} {vs : List Value} {b : Nat}, ARs β S w l vs → refs1s l b → β b ≠ none
  | [], vs, b, _, hr => by simp only [refs1s] at hr
  | x :: l, vs, b, h, hr => by
    simp only [ARs] at h
    obtain ⟨u, us, _, h1, h2⟩ := h
    simp only [refs1s] at hr
    rcases hr with hr | hr
    · exact AR_refs h1 hr
    · exact ARs_refs h2 hr
end
theorem refs_known (h : Rel G w0 M S0 σE a w β S) {x : Operand} {b : Nat} (hr : refs1 (σE.ev G x) b) : lk σE.heap b ≠ none :=
  h.keys b (AR_refs (h.ev x) hr)

theorem looks_tmp {t : Nat} (h : Operand.tmp t ∈ o.op.operands) : t ∈ o.looksAt ops := by
  unfold Oper.looksAt
  refine List.mem_append.2 (.inl ?_)
  exact List.mem_filterMap.2 ⟨.tmp t, by simpa using h, rfl⟩
theorem looks_guard {k g : Nat} {want : Bool} (h : o.guard = some (k, want)) (hg : gtmp ops k = some g) : g ∈ o.looksAt ops := by
  unfold Oper.looksAt
  refine List.mem_append.2 (.inr ?_)
  unfold gtmp at hg
  simp [h, hg]

variable (hst : ∀ i o, ops[i]? = some o → StepAt P G T ops o (σs i) (σs (i + 1)))
variable (hsp : ∀ k o, ops[k]? = some o → (∀ p ∈ predsOf o, p < k) ∧ ∀ i x, i < k → ops[i]? = some x → confl ops x o = true → Anc ops k i)
variable (hcl : ∀ k o, L k → ops[k]? = some o → ∀ p ∈ predsOf o, L p)

theorem anc_closed (hcl : ∀ k o, L k → ops[k]? = some o → ∀ p ∈ predsOf o, L p) {k i : Nat} (h : Anc ops k i) : L k → L i := by
  induction h with
  | one h hi => exact fun hk => hcl _ _ hk h _ hi
  | more h hp ha ih => exact fun hk => ih (hcl _ _ hk h _ hp)
theorem anc_ready (hcl : ∀ k o, L k → ops[k]? = some o → ∀ p ∈ predsOf o, L p) {k i : Nat} (h : Anc ops k i) (hr : ∀ o, ops[k]? = some o → ∀ p ∈ predsOf o, L p) : L i := by
  cases h with
  | one h hi => exact hr _ h _ hi
  | more h hp ha => exact anc_closed hcl ha (hr _ h _ hp)

variable (hj : ops[j]? = some o) (hnj : ¬ L j) (hr : ∀ p ∈ predsOf o, L p)

include hsp hcl hj hr in
theorem ord1_of : ∀ i x, i < j → ops[i]? = some x → confl ops x o = true → L i := fun i x hi hx hc =>
  anc_ready hcl ((hsp j o hj).2 i x hi hx hc) (fun o' ho' => by rw [hj] at ho'; cases ho'; exact hr)
include hsp hcl hj hnj in
theorem ord2_of : ∀ i x, j < i → ops[i]? = some x → confl ops x o = true → ¬ L i := fun i x hi hx hc hL =>
  hnj (anc_closed hcl ((hsp i x hx).2 j o hi hj (confl_comm hc)) hL)

include hsp hcl hj hnj hr in
theorem same_of (hM : Mind (ops := ops) (σs := σs) L σE) : Same G o (σs j) σE := by
  intro x hx
  cases x with
  | tmp t =>
    have hjs : j < ops.size := by
      rcases Nat.lt_or_ge j ops.size with h | h
      · exact h
      · simp [Array.getElem?_eq_none h] at hj
    exact hM.get t j (Nat.le_of_lt hjs) (cons_at hj hnj (ord1_of hsp hcl hj hr) (ord2_of hsp hcl hj hnj) (.inl (looks_tmp hx)))
  | _ => rfl
include hsp hcl hj hnj hr in
theorem guardYes_of (hM : Mind (ops := ops) (σs := σs) L σE) (hg : guardYes ops o (σs j)) : guardYes ops o σE := by
  have hjs : j < ops.size := by
    rcases Nat.lt_or_ge j ops.size with h | h
    · exact h
    · simp [Array.getElem?_eq_none h] at hj
  rcases hg with hg | ⟨k, want, g, h1, h2, h3⟩
  · exact .inl hg
  · refine .inr ⟨k, want, g, h1, h2, ?_⟩
    rw [hM.get g j (Nat.le_of_lt hjs) (cons_at hj hnj (ord1_of hsp hcl hj hr) (ord2_of hsp hcl hj hnj) (.inl (looks_guard h1 h2)))]
    exact h3
include hsp hcl hj hnj hr in
theorem guardNo_of (hM : Mind (ops := ops) (σs := σs) L σE) (hg : guardNo ops o (σs j)) : guardNo ops o σE := by
  have hjs : j < ops.size := by
    rcases Nat.lt_or_ge j ops.size with h | h
    · exact h
    · simp [Array.getElem?_eq_none h] at hj
  obtain ⟨k, want, g, h1, h2, h3⟩ := hg
  refine ⟨k, want, g, h1, h2, ?_⟩
  rw [hM.get g j (Nat.le_of_lt hjs) (cons_at hj hnj (ord1_of hsp hcl hj hr) (ord2_of hsp hcl hj hnj) (.inl (looks_guard h1 h2)))]
  exact h3

/-- What made a key: before, none; behind, one. -/
theorem made {i b : Nat} {x : Oper} (hst : ∀ i o, ops[i]? = some o → StepAt P G T ops o (σs i) (σs (i + 1))) (hx : ops[i]? = some x) (h : kindOf x.op = 1 ∧ x.dst = some b ∧ guardYes ops x (σs i)) :
    lk (σs i).heap b = none ∧ lk (σs (i + 1)).heap b ≠ none := by
  obtain ⟨τ0, hs, _, _, hh⟩ := hst i x hx
  cases hs with
  | skip hg _ => exact (guard_not_both h.2.2 hg).elim
  | lt hg hl _ _ _ => rw [lite_kind hl] at h; exact absurd h.1 (by decide)
  | st hg hs _ _ _ _ _ _ => rw [(isSt_spec hs).1] at h; exact absurd h.1 (by decide)
  | val hg hk _ _ _ _ => rw [h.1] at hk; cases hk
  | call hg hk _ _ _ _ _ _ => rw [h.1] at hk; cases hk
  | wr hg hk _ _ _ _ _ _ => rw [h.1] at hk; cases hk
  | new hg hk d hd r l hf he t =>
    rw [h.2.1] at hd; cases hd
    refine ⟨hf, ?_⟩
    rw [hh, he]
    simp [St.put, St.new, lk]

include hst hsp hcl hj hnj hr in
theorem reach_of (hrel : Rel G w0 M S0 σE a w β S) (hM : Mind (ops := ops) (σs := σs) L σE) (hk1 : kindOf o.op ≠ 1) (hk2 : kindOf o.op ≠ 2) (hlt : lite o = false) : Reach G o (σs j) σE := by
  intro x hx b hrf fr l hl
  have hsame := same_of (G := G) hsp hcl hj hnj hr hM x hx
  have hne := refs_known (G := G) hrel (x := x) (b := b) (by rw [hsame]; exact hrf)
  have ord1 := ord1_of hsp hcl hj hr
  have ord2 := ord2_of hsp hcl hj hnj
  have hjs : j < ops.size := by
    rcases Nat.lt_or_ge j ops.size with h | h
    · exact h
    · simp [Array.getElem?_eq_none h] at hj
  have hl' : lk (σs j).heap b = some (fr, l) := hl
  -- what made the key behind has made it
  have hall : ∀ i x, i < j → ops[i]? = some x → (kindOf x.op = 1 ∧ x.dst = some b ∧ guardYes ops x (σs i)) → L i := by
    intro i0 x0 hi0 hx0 hm0
    refine Classical.byContradiction fun hn0 => ?_
    obtain ⟨hnone, hsome⟩ := made hst hx0 hm0
    have hcons : ∀ i, i < ops.size → touchC ops σs i b → (L i ↔ i < i0) := by
      rintro i hi ⟨y, hy, hyt⟩
      rcases Nat.lt_trichotomy i i0 with h | h | h
      · refine ⟨fun _ => h, fun _ => ?_⟩
        rcases hyt with hyt | hyt
        · exact ord1 i y (by omega) hy (confl_wr hyt (.inr hlt)).1
        · obtain ⟨_, h2⟩ := made hst hy hyt
          exact absurd hnone (keys_up hst (a := i + 1) (by omega) (by omega) h2)
      · subst h
        exact ⟨fun h => absurd h hn0, fun h => absurd h (Nat.lt_irrefl _)⟩
      · refine ⟨fun hL => ?_, fun h' => by omega⟩
        exfalso
        rcases hyt with hyt | hyt
        · have hc : confl ops x0 y = true := (confl_wr hyt (.inr (by cases hl : lite x0 with | false => rfl | true => have := lite_kind hl; rw [hm0.1] at this; cases this))).2
          exact hn0 (anc_closed hcl ((hsp i y hy).2 i0 x0 h hx0 hc) hL)
        · obtain ⟨h1, _⟩ := made hst hy hyt
          exact absurd h1 (keys_up hst (a := i0 + 1) (by omega) (by omega) hsome)
    have := hM.ct b i0 (by omega) hcons
    unfold ct at this
    rw [hnone] at this
    exact hne (by simpa using this)
  have hcons : ∀ i, i < ops.size → touchC ops σs i b → (L i ↔ i < j) := by
    rintro i hi ⟨y, hy, hyt⟩
    rcases Nat.lt_trichotomy i j with h | h | h
    · refine ⟨fun _ => h, fun _ => ?_⟩
      rcases hyt with hyt | hyt
      · exact ord1 i y h hy (confl_wr hyt (.inr hlt)).1
      · exact hall i y h hy hyt
    · subst h
      rw [hj] at hy; cases hy
      rcases hyt with hyt | hyt
      · exact absurd hyt hk2
      · exact absurd hyt.1 hk1
    · refine ⟨fun hL => ?_, fun h' => by omega⟩
      exfalso
      rcases hyt with hyt | hyt
      · exact ord2 i y h hy (confl_wr hyt (.inr hlt)).1 hL
      · obtain ⟨h1, _⟩ := made hst hy hyt
        exact absurd h1 (keys_up hst (a := j) (Nat.le_of_lt h) (by omega) (by rw [hl']; simp))
  have := hM.ct b j (Nat.le_of_lt hjs) hcons
  unfold ct at this
  rw [hl'] at this
  simp only [Option.map_some, Option.map_eq_some_iff] at this
  obtain ⟨y, hy, e⟩ := this
  obtain ⟨fr', l'⟩ := y
  exact ⟨fr', by rw [← e]; exact hy⟩

include hsp hcl hj hnj hr in
theorem none_of (hM : Mind (ops := ops) (σs := σs) L σE) {d : Nat} (hk : kindOf o.op = 1) (hd : o.dst = some d) (hn : lk (σs j).heap d = none) : lk σE.heap d = none := by
  have ord1 := ord1_of hsp hcl hj hr
  have ord2 := ord2_of hsp hcl hj hnj
  have hjs : j < ops.size := by
    rcases Nat.lt_or_ge j ops.size with h | h
    · exact h
    · simp [Array.getElem?_eq_none h] at hj
  have hcons : ∀ i, i < ops.size → touchC ops σs i d → (L i ↔ i < j) := by
    rintro i hi ⟨y, hy, hyt⟩
    have hc : confl ops y o = true := by
      rcases hyt with hyt | hyt
      · exact (confl_wr hyt (.inr (by cases hl : lite o with | false => rfl | true => have := lite_kind hl; rw [hk] at this; cases this))).1
      · exact confl_of_touch (.inl hyt.2.1) (.inr hd)
    rcases Nat.lt_trichotomy i j with h | h | h
    · exact ⟨fun _ => h, fun _ => ord1 i y h hy hc⟩
    · subst h; exact ⟨fun h => absurd h hnj, fun h => absurd h (Nat.lt_irrefl _)⟩
    · exact ⟨fun hL => absurd hL (ord2 i y h hy hc), fun h' => by omega⟩
  have := hM.ct d j (Nat.le_of_lt hjs) hcons
  unfold ct at this
  rw [hn] at this
  simpa using this

/-- ONE STEP, OUT OF ORDER. -/
theorem step_any (hT : TabOk P T) (hst : ∀ i o, ops[i]? = some o → StepAt P G T ops o (σs i) (σs (i + 1)))
    (hsp : ∀ k o, ops[k]? = some o → (∀ p ∈ predsOf o, p < k) ∧ ∀ i x, i < k → ops[i]? = some x → confl ops x o = true → Anc ops k i)
    (hcl : ∀ k o, L k → ops[k]? = some o → ∀ p ∈ predsOf o, L p) (hj : ops[j]? = some o) (hnj : ¬ L j) (hr : ∀ p ∈ predsOf o, L p)
    (hdst : ∀ d, o.dst = some d → d < σE.n) (hrel : Rel G w0 M S0 σE a w β S) (hM : Mind (ops := ops) (σs := σs) L σE) {K : Act → World → Prop} {Q : Exit → Act → World → Prop}
    (hK : ∀ a w σ' β S, Rel G w0 M S0 σ' a w β S → Mind (ops := ops) (σs := σs) (fun i => L i ∨ i = j) σ' → K a w) : wpOp P ops Q j K a w := by
  have ord1 := ord1_of hsp hcl hj hr
  have ord2 := ord2_of hsp hcl hj hnj
  have hsame := same_of (G := G) hsp hcl hj hnj hr hM
  obtain ⟨τ, hs, e1, e2, hh⟩ := hst j o hj
  have hfin : ∀ {K' : St → Prop}, evOp P G T σE o K' → guardYes ops o (σs j) → (∀ σ', K' σ' → Mind (ops := ops) (σs := σs) (fun i => L i ∨ i = j) σ') → wpOp P ops Q j K a w := by
    intro K' hev hg hm
    refine wpOp_of_wp hj (wanted_yes hrel (guardYes_of hsp hcl hj hnj hr hM hg)) (Oper.wp_mono ?_ (evOp_sound hT hrel hdst hev Q))
    rintro a' w' ⟨σ2, β2, S2, hK2, h2, _⟩
    exact hK a' w' σ2 β2 S2 h2 (hm σ2 hK2)
  cases hs with
  | skip hg h =>
    have hw := wanted_no hrel (guardNo_of hsp hcl hj hnj hr hM hg)
    have hrel' := put_undef hrel o.dst hdst
    simp only [wpOp, hj, hw, Bool.false_eq_true, if_false]
    refine hK _ _ _ _ _ hrel' ?_
    by_cases hss : isSt o = true
    · obtain ⟨_, hd, _⟩ := isSt_spec hss
      rw [hd]
      refine Mind.stepS hst hj hnj ord1 ord2 hM hss rfl (fun _ => rfl) (fun b => ?_) (fun b l' hl => ⟨l', hl⟩)
      show Ev.ct σE b = _
      rw [Mind.ctS hst hj hnj ord1 ord2 hM hss b]
      unfold ct
      rw [hh, h, put_heap]
    have hss : isSt o = false := by simpa using hss
    by_cases hk : kindOf o.op = 2
    · refine Mind.stepW hst hj hnj ord1 ord2 hk hss ?_
      have he := (Mind.eqvW hst hj hnj ord1 ord2 hM hk hss).put o.dst (.d (.tup []))
      rw [← h] at he
      exact he.trans e1
    · refine Mind.step hst hj hnj ord1 ord2 hM hk (put_n _ _ _) (fun t ht => ?_) (fun t ht => put_get_ne ht) (fun b hb => (guard_not_both hb.2.2 hg).elim) (fun b _ => by simp only [ct, put_heap]) (fun b l' hl => .inl ⟨l', by rw [put_heap] at hl; exact hl⟩)
      rw [e2.get, h, ht, get_put, if_pos rfl, get_put, if_pos rfl]
  | lt hg hl r h t =>
    have hk := lite_kind hl
    refine hfin (K' := fun σ' => σ' = σE.put o.dst r) (t σE _ hsame rfl) hg ?_
    rintro σ' rfl
    refine Mind.step hst hj hnj ord1 ord2 hM (by rw [hk]; decide) (put_n _ _ _) (fun t ht => ?_) (fun t ht => put_get_ne ht) (fun b hb => by rw [hk] at hb; exact absurd hb.1 (by decide)) (fun b _ => by simp only [ct, put_heap]) (fun b l' hl => .inl ⟨l', by rw [put_heap] at hl; exact hl⟩)
    rw [e2.get, h, ht, get_put, if_pos rfl, get_put, if_pos rfl]
  | st hg hs b l row hb h t =>
    have hcb := Mind.ctS hst hj hnj ord1 ord2 hM hs
    have hjs := lt_size hst hj hnj ord1 ord2
    have hfr : lk σE.heap b = some (false, l) := by
      have h1 := hcb b
      unfold ct at h1
      rw [hb] at h1
      simp only [Option.map_some, Option.map_eq_some_iff] at h1
      obtain ⟨y, hy, e⟩ := h1
      obtain ⟨fr, l3⟩ := y
      cases fr with
      | false => rw [hy, ← e]
      | true =>
        exfalso
        refine hM.fl j (Nat.le_of_lt hjs) (fun i x hx hlx hL => ?_) b l hb l3 hy
        rcases Nat.lt_trichotomy i j with hij | hij | hij
        · exact hij
        · subst hij; exact absurd hL hnj
        · exact absurd hL (ord2 i x hij hx (confl_wr (isSt_spec hs).1 (.inr hlx)).2)
    refine hfin (K' := fun σ' => σ' = σE.wr b row) (t σE _ hsame hfr rfl) hg ?_
    rintro σ' rfl
    refine Mind.stepS hst hj hnj ord1 ord2 hM hs rfl (fun _ => rfl) (fun b' => ?_) (fun b' l' hl => ?_)
    · have h1 := hcb b'
      unfold ct at h1 ⊢
      rw [hh, h, wr_lk, wr_lk]
      split
      · rename_i e; subst e
        rw [hfr, hb]
      · exact h1
    · rw [wr_lk] at hl
      split at hl
      · rename_i e; subst e
        rw [hfr] at hl; cases hl
      · exact ⟨l', hl⟩
  | val hg hk hlt r h t =>
    refine hfin (K' := fun σ' => σ' = σE.put o.dst r) (t σE _ hsame (reach_of hst hsp hcl hj hnj hr hrel hM (by rw [hk]; decide) (by rw [hk]; decide) hlt) rfl) hg ?_
    rintro σ' rfl
    refine Mind.step hst hj hnj ord1 ord2 hM (by rw [hk]; decide) (put_n _ _ _) (fun t ht => ?_) (fun t ht => put_get_ne ht) (fun b hb => by rw [hk] at hb; exact absurd hb.1 (by decide)) (fun b _ => by simp only [ct, put_heap]) (fun b l' hl => .inl ⟨l', by rw [put_heap] at hl; exact hl⟩)
    rw [e2.get, h, ht, get_put, if_pos rfl, get_put, if_pos rfl]
  | new hg hk d hd r l hf h t =>
    refine hfin (K' := fun σ' => σ' = (σE.new d l).put (some d) r) (t σE _ hsame (none_of hsp hcl hj hnj hr hM hk hd hf) rfl) hg ?_
    rintro σ' rfl
    refine Mind.step hst hj hnj ord1 ord2 hM (by rw [hk]; decide) (put_n _ _ _) (fun t ht => ?_) (fun t ht => ?_) (fun b hb => ?_) (fun b hb => ?_) (fun b l' hl => .inl ?_)
    · rw [hd] at ht; cases ht
      rw [e2.get, h, get_put, if_pos rfl, get_put, if_pos rfl]
    · rw [put_get_ne (by rw [← hd]; exact ht)]; rfl
    · have hbd : d = b := by have := hb.2.1; rw [hd] at this; cases this; rfl
      subst hbd
      show (lk _ _).map _ = (lk _ _).map _
      rw [hh, h]
      simp [St.put, St.new, lk]
    · have hbd : ¬ d = b := fun e => hb ⟨hk, by rw [hd, e], hg⟩
      show (lk _ _).map _ = (lk _ _).map _
      simp only [put_heap, St.new, lk]
      rw [if_neg hbd]
    · simp only [put_heap, St.new, lk] at hl
      split at hl
      · cases hl
      · exact ⟨l', hl⟩
  | call hg hk fresh r bs hb h t =>
    refine hfin (K' := fun σ' => σ' = (if fresh then σE else σE.freeze bs).put o.dst r) (t σE _ hsame (reach_of hst hsp hcl hj hnj hr hrel hM (by rw [hk]; decide) (by rw [hk]; decide) (by cases hl : lite o with | false => rfl | true => have := lite_kind hl; rw [hk] at this; cases this)) rfl) hg ?_
    rintro σ' rfl
    refine Mind.step hst hj hnj ord1 ord2 hM (by rw [hk]; decide) ?_ (fun t ht => ?_) (fun t ht => ?_) (fun b hb => by rw [hk] at hb; exact absurd hb.1 (by decide)) (fun b _ => ?_) (fun b l' hl => ?_)
    · rw [put_n]; cases fresh
      · exact freeze_n _ _
      · rfl
    · rw [e2.get, h, ht, get_put, if_pos rfl, get_put, if_pos rfl]
    · rw [put_get_ne ht]; cases fresh
      · exact freeze_get _ _ _
      · rfl
    · simp only [ct, put_heap]
      cases fresh
      · simp only [Bool.false_eq_true, if_false, freeze_lk, Option.map_map]; rfl
      · rfl
    · rw [put_heap] at hl
      cases fresh with
      | true => exact .inl ⟨l', hl⟩
      | false =>
        simp only [Bool.false_eq_true, if_false, freeze_lk, Option.map_eq_some_iff] at hl
        obtain ⟨y, hy, e⟩ := hl
        obtain ⟨fr, l2⟩ := y
        simp only [Prod.mk.injEq] at e
        obtain ⟨e3, rfl⟩ := e
        cases fr with
        | true => exact .inl ⟨l2, hy⟩
        | false =>
          refine .inr ⟨by cases hl : lite o with | false => rfl | true => (have := lite_kind hl; rw [hk] at this; cases this), ?_⟩
          simp only [Bool.false_or, List.contains_iff_mem] at e3
          rw [hh, h, put_heap]
          simp only [Bool.false_eq_true, if_false, freeze_lk]
          cases hq : lk (σs j).heap b with
          | none => obtain ⟨fr', ds, hds⟩ := hb b e3; rw [hq] at hds; cases hds
          | some y =>
            obtain ⟨fr, l3⟩ := y
            exact ⟨l3, by simp [e3]⟩
  | wr hg hk hss hn mono keys fd t =>
    have he := Mind.eqvW hst hj hnj ord1 ord2 hM hk hss
    refine hfin (K' := fun σ' => Eqv σ' τ) (t σE _ he fun τ' h => h) hg fun σ' h => ?_
    exact Mind.stepW hst hj hnj ord1 ord2 hk hss (h.trans e1)

theorem ready_mem {listed : Array Bool} {i : Nat} : i ∈ Region.ready .any ops listed ↔ i < ops.size ∧ listed.getD i true = false ∧ ∀ o, ops[i]? = some o → ∀ p ∈ predsOf o, listed.getD p false = true := by
  unfold Region.ready
  simp only [List.mem_filter, List.mem_range, Bool.and_eq_true, Bool.not_eq_true']
  constructor
  · rintro ⟨h1, h2, h3⟩
    refine ⟨h1, h2, fun o ho p hp => ?_⟩
    rw [ho] at h3
    simp only [Option.map_some, Option.getD_some, Array.all_eq_true_iff_forall_mem] at h3
    obtain ⟨e, he, rfl⟩ := List.mem_map.1 hp
    obtain ⟨he1, he2⟩ := List.mem_filter.1 he
    have := h3 e (Array.mem_toList_iff.1 he1)
    simpa [he2] using this
  · rintro ⟨h1, h2, h3⟩
    refine ⟨h1, h2, ?_⟩
    obtain ⟨o, ho⟩ : ∃ o, ops[i]? = some o := ⟨ops[i], by simp [h1]⟩
    rw [ho]
    simp only [Option.map_some, Option.getD_some, Array.all_eq_true_iff_forall_mem]
    intro e he
    cases hb : Region.binds .any e with
    | false => rfl
    | true => simpa using h3 o ho e.on (List.mem_map.2 ⟨e, List.mem_filter.2 ⟨Array.mem_toList_iff.2 he, hb⟩, rfl⟩)

theorem getD_true {l : Array Bool} {i : Nat} (h : i < l.size) : l.getD i true = l.getD i false := by
  simp [Array.getD_eq_getD_getElem?, h]

theorem set_getD {l : Array Bool} {i k : Nat} (h : i < l.size) : (l.setIfInBounds i true).getD k false = true ↔ l.getD k false = true ∨ k = i := by
  simp only [Array.getD_eq_getD_getElem?, Array.getElem?_setIfInBounds]
  by_cases e : i = k
  · subst e; simp [h]
  · rw [if_neg e]
    exact ⟨.inl, fun hh => hh.resolve_right fun e' => e e'.symm⟩

def unlisted (n : Nat) (l : Array Bool) : Nat := ((List.range n).filter fun i => !l.getD i false).length
theorem unlisted_set {l : Array Bool} {n i : Nat} (hi : i < n) (hs : l.size = n) (h : l.getD i false = false) : unlisted n (l.setIfInBounds i true) + 1 = unlisted n l := by
  have key : ∀ (is : List Nat), is.Nodup → ((is.filter fun k => !(l.setIfInBounds i true).getD k false).length + (if i ∈ is then 1 else 0)) = (is.filter fun k => !l.getD k false).length := by
    intro is
    induction is with
    | nil => simp
    | cons k is ih =>
      intro hnd
      obtain ⟨hk, hnd⟩ := List.nodup_cons.1 hnd
      have ih := ih hnd
      by_cases e : k = i
      · subst e
        have h1 : (l.setIfInBounds k true).getD k false = true := (set_getD (by omega)).2 (.inr rfl)
        rw [if_neg hk] at ih
        simp only [List.filter_cons, h1, h, List.mem_cons, true_or, if_true]
        simp only [Bool.not_true, Bool.false_eq_true, if_false, Bool.not_false, if_true, List.length_cons]
        omega
      · have h1 : (l.setIfInBounds i true).getD k false = l.getD k false := by
          have := set_getD (l := l) (i := i) (k := k) (by omega)
          cases hq : l.getD k false <;> cases hp : (l.setIfInBounds i true).getD k false <;> simp_all
        have e3 : (if i ∈ k :: is then 1 else 0) = (if i ∈ is then 1 else 0) := by
          by_cases h2 : i ∈ is
          · rw [if_pos h2, if_pos (List.mem_cons_of_mem _ h2)]
          · rw [if_neg h2, if_neg fun hh => (List.mem_cons.1 hh).elim (fun e' => e e'.symm) h2]
        rw [e3]
        simp only [List.filter_cons, h1]
        split <;> (try simp only [List.length_cons]) <;> omega
  have := key (List.range n) List.nodup_range
  rw [if_pos (List.mem_range.2 hi)] at this
  exact this

/-- WHATEVER IS DRAWN. -/
theorem any_run (hT : TabOk P T) (hst : ∀ i o, ops[i]? = some o → StepAt P G T ops o (σs i) (σs (i + 1)))
    (hsp : ∀ k o, ops[k]? = some o → (∀ p ∈ predsOf o, p < k) ∧ ∀ i x, i < k → ops[i]? = some x → confl ops x o = true → Anc ops k i)
    (hd : ∀ o ∈ ops.toList, ∀ d, o.dst = some d → d < (σs 0).n) {Q : Exit → Act → World → Prop}
    (hQ : ∀ a w σ' β S, Rel G w0 M S0 σ' a w β S → Eqv σ' (σs ops.size) → Q .normal a w) :
    ∀ (fuel : Nat) (listed : Array Bool) (a : Act) (w : World) (σE : St) (β : Own) (S : Imm), listed.size = ops.size → unlisted ops.size listed = fuel →
      (∀ k o, listed.getD k false = true → ops[k]? = some o → ∀ p ∈ predsOf o, listed.getD p false = true) →
      Rel G w0 M S0 σE a w β S → Mind (ops := ops) (σs := σs) (fun i => listed.getD i false = true) σE → wpAny P .any ops Q fuel listed a w := by
  have hdone : ∀ (listed : Array Bool) (a : Act) (w : World) (σE : St) (β : Own) (S : Imm), listed.size = ops.size → Rel G w0 M S0 σE a w β S → Mind (ops := ops) (σs := σs) (fun i => listed.getD i false = true) σE →
      Region.ready .any ops listed = [] → Q .normal a w := by
    intro listed a w σE β S hsz hrel hM hnil
    have hall : ∀ i, i < ops.size → listed.getD i false = true := by
      intro i
      induction i using Nat.strongRecOn with
      | _ i ih =>
        intro hi
        cases hl : listed.getD i false with
        | true => rfl
        | false =>
          exfalso
          have : i ∈ Region.ready .any ops listed := ready_mem.2 ⟨hi, by rw [getD_true (by omega)]; exact hl, fun o ho p hp => by
            have hlt := (hsp i o ho).1 p hp
            exact ih p hlt (by omega)⟩
          rw [hnil] at this
          cases this
    refine hQ a w σE β S hrel ⟨hM.n.trans (n_up hst (Nat.le_refl _)).symm, fun t => hM.get t _ (Nat.le_refl _) fun i hi _ => ⟨fun _ => hi, fun _ => hall i hi⟩, fun b => hM.ct b _ (Nat.le_refl _) fun i hi _ => ⟨fun _ => hi, fun _ => hall i hi⟩, fun b l hl => ?_⟩
    have h1 := hM.ct b _ (Nat.le_refl _) fun i hi _ => ⟨fun _ => hi, fun _ => hall i hi⟩
    have h2 := hM.fl _ (Nat.le_refl _) (fun i x hx _ _ => (Array.getElem?_eq_some_iff.1 hx).1) b l hl
    unfold ct at h1
    rw [hl] at h1
    simp only [Option.map_some, Option.map_eq_some_iff] at h1
    obtain ⟨y, hy, e⟩ := h1
    obtain ⟨fr, l3⟩ := y
    cases fr with
    | true => exact absurd hy (h2 l3)
    | false => exact ⟨l3, hy⟩
  intro fuel
  induction fuel with
  | zero =>
    intro listed a w σE β S hsz hu hcl hrel hM
    have hnil : Region.ready .any ops listed = [] := by
      refine List.eq_nil_iff_forall_not_mem.2 fun i hi => ?_
      obtain ⟨h1, h2, _⟩ := ready_mem.1 hi
      have : i ∈ (List.range ops.size).filter fun i => !listed.getD i false := List.mem_filter.2 ⟨List.mem_range.2 h1, by rw [← getD_true (by omega), h2]; rfl⟩
      unfold unlisted at hu
      rw [List.length_eq_zero_iff.1 hu] at this
      cases this
    exact ⟨hnil, hdone listed a w σE β S hsz hrel hM hnil⟩
  | succ fuel ih =>
    intro listed a w σE β S hsz hu hcl hrel hM
    refine ⟨hdone listed a w σE β S hsz hrel hM, fun i hi => ?_⟩
    obtain ⟨h1, h2, h3⟩ := ready_mem.1 hi
    rw [getD_true (by omega)] at h2
    obtain ⟨o, ho⟩ : ∃ o, ops[i]? = some o := ⟨ops[i], by simp [h1]⟩
    have hmem : o ∈ ops.toList := by
      have : ops.toList[i]? = some o := by simpa using ho
      exact List.mem_of_getElem? this
    refine step_any (L := fun i => listed.getD i false = true) hT hst hsp hcl ho (by rw [h2]; simp) (h3 o ho) (fun d hd' => by rw [hM.n]; exact hd o hmem d hd') hrel hM ?_
    intro a' w' σ' β' S' hrel' hM'
    refine ih (listed.setIfInBounds i true) a' w' σ' β' S' (by simp [hsz]) (by have := unlisted_set h1 hsz h2; omega) ?_ hrel' ?_
    · intro k o' hk ho' p hp
      rw [set_getD (by omega)] at hk ⊢
      rcases hk with hk | rfl
      · exact .inl (hcl k o' hk ho' p hp)
      · exact .inl (h3 o' ho' p hp)
    · have : (fun k => (listed.setIfInBounds i true).getD k false = true) = fun k => listed.getD k false = true ∨ k = i := by
        funext k
        exact propext (set_getD (by omega))
      rw [this]
      exact hM'

theorem Eqv.hpn_rev {σ' τ : St} (h : Eqv σ' τ) {b : Nat} (hl : lk σ'.heap b = none) : lk τ.heap b = none := by
  have := h.ct b
  rw [hl] at this
  cases hb : lk τ.heap b with
  | none => rfl
  | some x => rw [hb] at this; cases this
/-- The same state, but for what is shared out: it may be shared out here too. -/
theorem Rel.toEqv {σ' τ : St} (h : Rel G w0 M S0 σ' a w β S) (he : Eqv σ' τ) (hfd : FD τ) : ∃ S', Rel G w0 M S0 τ a w β S' := by
  let bs := (τ.heap.map (·.1)).filter fun b => match lk τ.heap b with | some (true, _) => true | _ => false
  have hct : ∀ b fr l, lk τ.heap b = some (fr, l) → ∃ fr', lk σ'.heap b = some (fr', l) := fun b fr l hl => he.hp hl
  have hmem : ∀ (hp : List (Nat × Bool × List A)) (b : Nat) (x : Bool × List A), lk hp b = some x → b ∈ hp.map (·.1) := by
    intro hp
    induction hp with
    | nil => intro b x h; simp [lk] at h
    | cons y hp ih =>
      intro b x h
      obtain ⟨k, y⟩ := y
      simp only [lk] at h
      split at h
      · rename_i e; subst e; simp
      · exact List.mem_cons_of_mem _ (ih b x h)
  have hbs1 : ∀ b l, lk τ.heap b = some (true, l) → b ∈ bs := fun b l hl => List.mem_filter.2 ⟨hmem _ b _ hl, by simp [hl]⟩
  have hbs2 : ∀ b, b ∈ bs → ∃ l, lk τ.heap b = some (true, l) := by
    intro b hb
    have := (List.mem_filter.1 hb).2
    split at this
    · rename_i l hl; exact ⟨l, hl⟩
    · cases this
  have hfr := h.freeze (bs := bs) (fun b hb => by
    obtain ⟨l, hl⟩ := hbs2 b hb
    obtain ⟨ds, rfl⟩ := hfd b l hl
    obtain ⟨fr', h1⟩ := hct b _ _ hl
    exact ⟨fr', ds, h1⟩)
  have hflag : ∀ b fr l, lk τ.heap b = some (fr, l) → lk (σ'.freeze bs).heap b = some (fr, l) := by
    intro b fr l hl
    rw [freeze_lk]
    cases fr with
    | true =>
      obtain ⟨fr', h1⟩ := hct b _ _ hl
      have : bs.contains b = true := by simpa using hbs1 b l hl
      rw [h1]; simp only [Option.map_some, this, Bool.or_true]
    | false =>
      have h1 := he.hpf hl
      have h2 : lk σ'.heap b = some (false, l) := h1
      have : bs.contains b = false := by
        cases hc : bs.contains b with
        | false => rfl
        | true =>
          obtain ⟨l', h3⟩ := hbs2 b (by simpa using hc)
          rw [hl] at h3; cases h3
      rw [h2]; simp only [Option.map_some, this, Bool.or_false]
  refine ⟨_, { hfr with size := ?_, env := ?_, keys := ?_, rd := ?_, live := ?_, froz := ?_, fd := hfd, nilb := ?_, stay := fun b h1 h2 hb => h.stay b h1 h2 fun e => hb (he.hpn_rev e), small := by rw [← he.n]; exact h.small }⟩
  · rw [h.size, he.n]
  · intro t x hx
    have h1 := hfr.get t
    rw [freeze_get, he.get] at h1
    unfold St.get at h1
    rw [hx] at h1
    exact h1
  · intro b hb
    have h1 := h.keys b hb
    intro e
    exact h1 (he.hpn e)
  · exact fun b k fr l hb hl => hfr.rd b k fr l hb (hflag b fr l hl)
  · exact fun b k l hb hl => hfr.live b k l hb (hflag b _ l hl)
  · exact fun b k l hb hl => hfr.froz b k l hb (hflag b _ l hl)
  · exact fun b fr l hb hl => hfr.nilb b fr l hb (hflag b fr l hl)

/-- A REGION THAT DRAWS ITS ORDER. -/
theorem draw_sound (hT : TabOk P T) (hm : P.follows .mixedOrders = true) {id : Nat} {σ : St} (hok : okDraw T ops = true) (hd : ∀ o ∈ ops.toList, ∀ d, o.dst = some d → d < σ.n) {Q : Exit → Act → World → Prop} {K : St → Prop}
    (hQ : ∀ a w, Post G w0 M S0 σ.n K a w → Q .normal a w) (hrel : Rel G w0 M S0 σ a w β S) (h : evOps P G T ops ops.toList σ K) : (Code.region id ops true).wp P Q a w := by
  simp only [okDraw, Bool.and_eq_true] at hok
  obtain ⟨hok1, hok2⟩ := hok
  obtain ⟨σs, h0, ⟨τ, hK, e1, e2⟩, hst0⟩ := trace_of ops.toList σ (fun o ho => List.all_eq_true.1 hok2 o ho) h
  have hst : ∀ i o, ops[i]? = some o → StepAt P G T ops o (σs i) (σs (i + 1)) := fun i o ho => hst0 i o (by simpa using ho)
  have hsp := fun k o => okFrom_spec (ops := ops) (masks_bit ops.toList [] (by simp) (by intro p i h; simp at h)) ops.toList 0 (by simp) hok1 k o (Nat.zero_le k)
  refine wp_region_any hm ?_
  have hdrew : Rel G w0 M S0 σ a { w with drawn := w.drawn + 1 } β S := hrel.olds (fun _ _ => rfl) rfl rfl rfl (Nat.le_refl _) (fun _ _ h => h) (fun _ _ h => .inl h)
  rw [← h0] at hdrew hd hQ
  refine any_run hT hst hsp hd ?_ ops.size (Array.replicate ops.size false) a _ (σs 0) β S (by simp) ?_ ?_ hdrew ?_
  · intro a' w' σ' β' S' hr he
    have he2 : Eqv σ' τ := he.trans (by simpa using e1)
    have e3 : Eqv τ (σs ops.size) := by simpa using e2
    have hfd0 : FD (σs 0) := by
      intro b l hl
      rw [h0] at hl
      exact hrel.fd b l hl
    have hfdn : FD (σs ops.size) := by
      have := walk_up hst (Q := FD) (a := 0) (fun i o _ ho h => step_fd (hst i o ho) h) hfd0 ops.size (by omega)
      rwa [Nat.zero_add] at this
    have hfdt : FD τ := by
      intro b l hl
      have e4 : Eqv (σs ops.size) τ := by simpa using e1
      have hc := e3.ct b
      rw [hl] at hc
      cases hb : lk (σs ops.size).heap b with
      | none => rw [hb] at hc; cases hc
      | some y =>
        obtain ⟨fr, l2⟩ := y
        rw [hb] at hc
        simp only [Option.map_some, Option.some.injEq] at hc
        cases fr with
        | true => rw [hc]; exact hfdn b l2 hb
        | false =>
          obtain ⟨l3, h3⟩ := e3.fl b l2 hb
          rw [hl] at h3; cases h3
    obtain ⟨S2, hrel2⟩ := hr.toEqv he2 hfdt
    exact hQ a' w' ⟨τ, β', S2, hK, hrel2, by rw [e3.n, n_up hst (Nat.le_refl _)]⟩
  · unfold unlisted
    have : (List.range ops.size).filter (fun i => !(Array.replicate ops.size false).getD i false) = List.range ops.size := by
      refine List.filter_eq_self.2 fun i hi => ?_
      simp [Array.getD_eq_getD_getElem?, Array.getElem?_replicate]
      split <;> rfl
    rw [this]; simp
  · intro k o hk
    exfalso
    simp [Array.getD_eq_getD_getElem?, Array.getElem?_replicate] at hk
    split at hk <;> cases hk
  · have : (fun i => (Array.replicate ops.size false).getD i false = true) = fun _ => False := by
      funext i
      simp only [eq_iff_iff, iff_false]
      intro hk
      simp [Array.getD_eq_getD_getElem?, Array.getElem?_replicate] at hk
      split at hk <;> cases hk
    rw [this]
    exact Mind.start hst
end
end Go.Ev
