/- Memory of the call's own is written: stores, appends; calls. -/
import Derived.Test.YtmgbegcamhkblaaDoorEvG
set_option linter.unusedSimpArgs false
set_option linter.unusedVariables false
namespace Go.Ev
open Go
section
variable {P : Program} {G : Glob} {T : Tab} {w0 : World} {M : Own} {S0 : Imm} {σ : St} {a : Act} {w w' : World} {β : Own} {S : Imm}

theorem lk_hset : ∀ (h : List (Nat × Bool × List A)) (b : Nat) (l : List A) (t : Nat), lk (hset h b l) t = if t = b then (lk h t).map (fun x => (x.1, l)) else lk h t
  | [], b, l, t => by simp [hset, lk]
  | (k, f, l0) :: h, b, l, t => by
    simp only [hset]
    by_cases hk : k = b
    · subst hk
      rw [if_pos rfl]
      simp only [lk]
      by_cases ht : k = t
      · subst ht; simp
      · rw [if_neg ht, if_neg ht, if_neg (fun e => ht e.symm)]
    · rw [if_neg hk]
      simp only [lk]
      by_cases ht : k = t
      · subst ht; simp [hk]
      · rw [if_neg ht, if_neg ht]; exact lk_hset h b l t

/-- One block of the call's own is written. -/
theorem Rel.write (h : Rel G w0 M S0 σ a w β S) {b k : Nat} {l l' : List A} {C C' : Array Value} {Tc : TypeId} (hb : β b = some (some k)) (hl : lk σ.heap b = some (false, l)) (hC : w.heap[k]? = some (.cells C Tc (0, 0))) (hC' : w'.heap[k]? = some (.cells C' Tc (0, 0)))
    (hsz : C'.size = C.size) (hoth : ∀ j, j ≠ k → w'.heap[j]? = w.heap[j]?) (hws : w'.heap.size = w.heap.size) (hos : w'.os = w.os) (ht : w'.tape = w.tape) (hout : w'.output = w.output)
    (hl' : l'.length ≤ C'.size) (hc : ∀ (j : Nat) (x : A), l'[j]? = some x → ∃ u, C'[j]? = some u ∧ AR β S w x u) :
    Rel G w0 M S0 (σ.wr b l') a w' β S ∧ Keeps S w w' ∧ Shapes w w' := by
  obtain ⟨hlive, hbase⟩ := h.live b k l hb hl
  have hk : Keeps S w w' := fun j o hS => cell_of_heap (hoth j (fun e => hlive o (e ▸ hS)))
  have hsh : Shapes w w' := fun j Cj Tj fr hj => by
    by_cases e : j = k
    · subst e
      rw [hC] at hj; cases hj
      exact ⟨C', hC', hsz⟩
    · exact ⟨Cj, by rw [hoth j e]; exact hj, rfl⟩
  have hlek : β.le β := fun _ _ h => h
  have hleS : S.le S := fun _ _ h => h
  refine ⟨?_, hk, hsh⟩
  refine { h with env := ?_, glob := ?_, keys := ?_, rd := ?_, live := ?_, froz := ?_, fd := ?_, nilb := ?_, imm := ?_, ext := ?_, stay := ?_ }
  · exact fun t x hx => AR.mono hlek hleS hk hsh (h.env t x hx)
  · exact fun g => DRL.mono hleS hk (h.glob g)
  · intro b' hb'
    have := h.keys b' hb'
    simp only [St.wr, lk_hset]
    split
    · cases hh : lk σ.heap b' with
      | none => exact absurd hh this
      | some x => simp
    · exact this
  · intro b' k' fr l1 hb' hl1
    simp only [St.wr, lk_hset] at hl1
    split at hl1
    · rename_i e
      subst e
      rw [hb] at hb'; cases hb'
      rw [hl] at hl1; cases hl1
      refine ⟨C', Tc, hC', hl', fun j x hx => ?_⟩
      obtain ⟨u, hu, hR⟩ := hc j x hx
      exact ⟨u, hu, AR.mono hlek hleS hk hsh hR⟩
    · rename_i e
      have hne : k' ≠ k := fun e' => e (h.inj b' b k' hb' (e' ▸ hb))
      exact Rd.mono hlek hleS hk hsh (hoth k' hne) (h.rd b' k' fr l1 hb' hl1)
  · intro b' k' l1 hb' hl1
    simp only [St.wr, lk_hset] at hl1
    split at hl1
    · rename_i e
      subst e
      rw [hb] at hb'; cases hb'
      exact ⟨hlive, hbase⟩
    · exact h.live b' k' l1 hb' hl1
  · intro b' k' l1 hb' hl1
    simp only [St.wr, lk_hset] at hl1
    split at hl1
    · rename_i e
      subst e
      rw [hl] at hl1; cases hl1
    · obtain ⟨ds, h1, h2⟩ := h.froz b' k' l1 hb' hl1
      exact ⟨ds, h1, DRL.mono hleS hk h2⟩
  · intro b' l1 hl1
    simp only [St.wr, lk_hset] at hl1
    split at hl1
    · rename_i e
      subst e
      rw [hl] at hl1; cases hl1
    · exact h.fd b' l1 hl1
  · intro b' fr l1 hb' hl1
    simp only [St.wr, lk_hset] at hl1
    split at hl1
    · rename_i e
      subst e
      rw [hb] at hb'; cases hb'
    · exact h.nilb b' fr l1 hb' hl1
  · intro k' o hS
    rw [hws]; exact h.imm k' o hS
  · refine ⟨hos.trans h.ext.os, ht.trans h.ext.tape, hout.trans h.ext.output, by rw [hws]; exact h.ext.size, fun j hj hM => ?_, fun j Cj Tj fr hj => ?_⟩
    · have hne : j ≠ k := by
        rintro rfl
        rcases hbase with h1 | h1
        · omega
        · exact hM h1
      rw [hoth j hne]; exact h.ext.block j hj hM
    · obtain ⟨C1, h1, h2⟩ := h.ext.shapes j Cj Tj fr hj
      obtain ⟨C2, h3, h4⟩ := hsh j C1 Tj fr h1
      exact ⟨C2, h3, by omega⟩
  · intro b' h1 h2 hb'
    refine h.stay b' h1 h2 fun e => hb' ?_
    simp only [St.wr, lk_hset]
    split
    · rw [e]; rfl
    · exact e

/-- Stores, one after another. -/
theorem run_storeCells' {k : Nat} {Tc : TypeId} : ∀ (vs : List Value) (C : Array Value) (o i : Nat) (w : World), (∀ v ∈ vs, v.oneCell' = true) → w.heap[k]? = some (.cells C Tc (0, 0)) → o + i + vs.length ≤ C.size →
    ∃ w' C', (storeCells ⟨k, o, none⟩ vs i).run P w = .ok () w' ∧ w'.heap[k]? = some (.cells C' Tc (0, 0)) ∧ C'.toList = setAt C.toList (o + i) vs ∧ (∀ j, j ≠ k → w'.heap[j]? = w.heap[j]?) ∧ w'.heap.size = w.heap.size ∧ w'.os = w.os ∧ w'.tape = w.tape ∧ w'.output = w.output
  | [], C, o, i, w, _, hC, _ => ⟨w, C, by simp [storeCells], hC, by simp [setAt], fun _ _ => rfl, rfl, rfl, rfl, rfl⟩
  | v :: vs, C, o, i, w, hv, hC, hl => by
    simp only [List.length_cons] at hl
    have hcell : ∃ u, w.cell? ⟨k, o + i, none⟩ = some u := by
      rw [cell_of_block hC]
      exact ⟨C[o + i]'(by omega), by simp [show o + i < C.size by omega]⟩
    obtain ⟨u, hu⟩ := hcell
    have hfz : w.frozen? ⟨k, o + i, none⟩ = false := by simp [World.frozen?, hC]
    have hC1 : (w.setCell ⟨k, o + i, none⟩ v).heap[k]? = some (.cells (C.setIfInBounds (o + i) v) Tc (0, 0)) := by
      simp [World.setCell, Array.getElem?_modify, hC]
    obtain ⟨w', C', h1, h2, h3, h4, h5, h6, h7, h8⟩ := run_storeCells' vs (C.setIfInBounds (o + i) v) o (i + 1) (w.setCell ⟨k, o + i, none⟩ v) (fun x hx => hv x (by simp [hx])) hC1 (by simp; omega)
    refine ⟨w', C', ?_, h2, ?_, fun j hj => ?_, ?_, h6, h7, h8⟩
    · simp only [storeCells, Sem.run_bind, add_none]
      rw [run_store P w _ v .plain (hv v (by simp))]
      simp only [hu, hfz, Result.andThen_ok]
      exact h1
    · rw [h3]
      simp [setAt, Nat.add_assoc]
    · rw [h4 j hj]
      simp only [World.setCell, Array.getElem?_modify]
      rw [if_neg (fun e => hj e.symm)]
    · rw [h5]; simp

theorem A.one_val {x : A} {v : Value} (h : AR β S w x v) (hx : x.one = true) : v.oneCell' = true := by
  cases x with
  | d y =>
    cases y with
    | any => simp [A.one] at hx
    | agg _ => simp [A.one] at hx
    | tup _ => simp [A.one] at hx
    | raw u => simp only [AR, DR] at h; subst h; simpa [A.one] using hx
    | slice n l => simp only [AR, DR] at h; obtain ⟨a, c, rfl, _⟩ := h; rfl
    | _ => simp only [AR, DR] at h; subst h; rfl
  | ptr b o => simp only [AR] at h; obtain ⟨k, _, rfl⟩ := h; rfl
  | elem c => simp only [AR] at h; obtain ⟨k, o, rfl, _⟩ := h; rfl
  | own b o n sz => simp only [AR] at h; rcases h with ⟨k, _, c, C, T, fr, rfl, _⟩ | ⟨_, _, a, rfl⟩ <;> rfl
  | agg l => simp [A.one] at hx

theorem store_sound (hT : TabOk P T) (h : Rel G w0 M S0 σ a w β S) {t : Nat} {ad x : Operand} {K : A → St → Prop} (hk : wrEv T G σ none (.store t ad x) K) :
    ∃ r σ' w', K r σ' ∧ (Instr.storeAt t (a.eval ad) (a.eval x)).run P w = .ok () w' ∧ Rel G w0 M S0 σ' a w' β S ∧ r = .d .any ∧ σ'.n = σ.n := by
  simp only [wrEv] at hk
  have had := h.ev ad
  have hx := h.ev x
  split at hk
  · rename_i b o e1
    rw [e1] at had
    simp only [AR] at had
    obtain ⟨k, hb, hv⟩ := had
    split at hk
    · rename_i l y hl hy
      obtain ⟨hf, hlen, hone0, ho, _, rfl, hK⟩ := hk
      have hone := List.all_eq_true.1 hone0
      obtain ⟨C, Tc, hC, hlC, hcell⟩ := h.rd b k _ _ hb hl
      have hAR := A.cells_AR hx hf
      have e2 := ARs_length hAR
      obtain ⟨w', C', h1, h2, h3, h4, h5, h6, h7, h8⟩ := run_storeCells' (P := P) (k := k) (Tc := Tc) (a.eval x).cells.toList C o 0 w (fun v hv => by
        obtain ⟨j, hj⟩ := List.getElem?_of_mem hv
        have : j < (σ.ev G x).cells.length := by
          have := (List.getElem?_eq_some_iff.1 hj).1; omega
        obtain ⟨u, hu, hR⟩ := ARs_get hAR (j := j) (x := (σ.ev G x).cells[j]) (by simp [this])
        rw [hj] at hu; cases hu
        exact A.one_val hR (hone _ (List.getElem_mem _))) hC (by omega)
      have hsz : C'.size = C.size := by
        have := congrArg List.length h3
        simpa [length_setAt] using this
      obtain ⟨h9, _, _⟩ := h.write (l' := setAt l o (σ.ev G x).cells) hb hl hC h2 hsz h4 h5 h6 h7 h8 (by simp [length_setAt]; omega) (fun j z hj => by
        rw [getElem?_setAt _ _ _ _ (by omega)] at hj
        have hC'j : C'[j]? = (setAt C.toList o (a.eval x).cells.toList)[j]? := by
          have : C'[j]? = C'.toList[j]? := by simp
          rw [this, h3]; rfl
        rw [hC'j, getElem?_setAt _ _ _ _ (by simp at e2 ⊢; omega)]
        split at hj
        · rename_i hc
          rw [if_pos (by omega)]
          exact ARs_get hAR hj
        · rename_i hc
          rw [if_neg (by omega)]
          obtain ⟨u, hu, hR⟩ := hcell j z hj
          exact ⟨u, by simpa using hu, hR⟩)
      refine ⟨_, _, w', hK, ?_, h9, rfl, rfl⟩
      rw [hv]
      simp only [Instr.storeAt, Instr.sureAddr, pure_bind, storeVar, Sem.run_bind, run_sizeOf' hT hy, Result.andThen_ok]
      rw [if_neg (by simp at e2 ⊢; omega)]
      exact h1
    · exact hk.elim
  · exact hk.elim

mutual
theorem AR_kill {β' : Own} {b : Nat} (hβ : ∀ c, c ≠ b → β' c = β c) : ∀ {x : A} {v : Value}, AR β S w x v → AR β' S w (x.kill b) v
  | .d x, v, h => by simp only [A.kill, AR] at h ⊢; exact h
  | .elem x, v, h => by simp only [A.kill, AR] at h ⊢; exact h
  | .ptr c o, v, h => by
    simp only [A.kill]
    split
    · simp only [AR, DR]
    · rename_i e
      simp only [AR, hβ c e] at h ⊢; exact h
  | .own c o n sz, v, h => by
    simp only [A.kill]
    split
    · simp only [AR, DR]
    · rename_i e
      simp only [AR, hβ c e] at h ⊢; exact h
  | .agg l, v, h => by
    simp only [A.kill, AR] at h ⊢
    obtain ⟨vs, rfl, h⟩ := h
    exact ⟨vs, rfl, ARs_kill hβ h⟩
theorem ARs_kill {β' : Own} {b : Nat} (hβ : ∀ c, c ≠ b → β' c = β c) : ∀ {l : List A} {vs : List Value}, ARs β S w l vs → ARs β' S w (A.kills b l) vs
  | [], vs, h => by simpa [A.kills, ARs] using h
  | x :: l, vs, h => by
    simp only [A.kills, ARs] at h ⊢
    obtain ⟨u, us, rfl, h1, h2⟩ := h
    exact ⟨u, us, rfl, AR_kill hβ h1, ARs_kill hβ h2⟩
end
theorem kills_get {b : Nat} : ∀ {l : List A} {j : Nat} {x : A}, (A.kills b l)[j]? = some x → ∃ y, l[j]? = some y ∧ x = y.kill b
  | [], j, x, h => by simp [A.kills] at h
  | y :: l, 0, x, h => by simp [A.kills] at h; exact ⟨y, rfl, h.symm⟩
  | y :: l, j + 1, x, h => by
    simp only [A.kills, List.getElem?_cons_succ] at h
    obtain ⟨z, h1, h2⟩ := kills_get h
    exact ⟨z, by simpa using h1, h2⟩
theorem length_kills {b : Nat} : ∀ l : List A, (A.kills b l).length = l.length
  | [] => rfl
  | x :: l => by simp [A.kills, length_kills l]
theorem lk_mapA (b : Nat) : ∀ (l : List (Nat × A)) (t : Nat), lk (l.map fun x => (x.1, x.2.kill b)) t = (lk l t).map (A.kill b)
  | [], t => rfl
  | (k, x) :: l, t => by
    simp only [List.map_cons, lk]
    split
    · rfl
    · exact lk_mapA b l t
theorem lk_mapH (b : Nat) : ∀ (l : List (Nat × Bool × List A)) (t : Nat), lk (l.map fun x => (x.1, x.2.1, A.kills b x.2.2)) t = (lk l t).map fun x => (x.1, A.kills b x.2)
  | [], t => rfl
  | (k, x) :: l, t => by
    simp only [List.map_cons, lk]
    split
    · rfl
    · exact lk_mapH b l t
theorem map_d_of_kills {b : Nat} {l : List A} {ds : List D} (h : l = ds.map A.d) : A.kills b l = ds.map A.d := by subst h; simp

theorem Rd.kill {β' : Own} {b k : Nat} {l : List A} (hβ : ∀ c, c ≠ b → β' c = β c) (h : Rd β S w k l) : Rd β' S w k (A.kills b l) := by
  obtain ⟨C, Tc, hC, hl, hc⟩ := h
  refine ⟨C, Tc, hC, by rw [length_kills]; exact hl, fun j x hx => ?_⟩
  obtain ⟨y, hy, rfl⟩ := kills_get hx
  obtain ⟨u, hu, hR⟩ := hc j y hy
  exact ⟨u, hu, AR_kill hβ hR⟩

/-- All views of a block are forgotten. -/
theorem Rel.kill (h : Rel G w0 M S0 σ a w β S) (b : Nat) : Rel G w0 M S0 (σ.kill b) a w β S := by
  refine { h with env := ?_, keys := ?_, rd := ?_, live := ?_, froz := ?_, fd := ?_, nilb := ?_, stay := ?_ }
  · intro t x hx
    simp only [St.kill, lk_mapA, Option.map_eq_some_iff] at hx
    obtain ⟨y, hy, rfl⟩ := hx
    exact AR_kill (fun _ _ => rfl) (h.env t y hy)
  · intro c hc
    have := h.keys c hc
    simp only [St.kill, lk_mapH]
    cases hh : lk σ.heap c with
    | none => exact absurd hh this
    | some x => simp
  · intro c k fr l hc hl
    simp only [St.kill, lk_mapH, Option.map_eq_some_iff] at hl
    obtain ⟨y, hy, e⟩ := hl
    obtain ⟨fr', l'⟩ := y
    cases e
    exact Rd.kill (fun _ _ => rfl) (h.rd c k _ _ hc hy)
  · intro c k l hc hl
    simp only [St.kill, lk_mapH, Option.map_eq_some_iff] at hl
    obtain ⟨y, hy, e⟩ := hl
    obtain ⟨fr', l'⟩ := y
    cases e
    exact h.live c k _ hc hy
  · intro c k l hc hl
    simp only [St.kill, lk_mapH, Option.map_eq_some_iff] at hl
    obtain ⟨y, hy, e⟩ := hl
    obtain ⟨fr', l'⟩ := y
    cases e
    obtain ⟨ds, h1, h2⟩ := h.froz c k _ hc hy
    exact ⟨ds, map_d_of_kills h1, h2⟩
  · intro c l hl
    simp only [St.kill, lk_mapH, Option.map_eq_some_iff] at hl
    obtain ⟨y, hy, e⟩ := hl
    obtain ⟨fr', l'⟩ := y
    cases e
    obtain ⟨ds, h1⟩ := h.fd c _ hy
    exact ⟨ds, map_d_of_kills h1⟩
  · intro c fr l hc hl
    simp only [St.kill, lk_mapH, Option.map_eq_some_iff] at hl
    obtain ⟨y, hy, e⟩ := hl
    obtain ⟨fr', l'⟩ := y
    cases e
    have := h.nilb c _ _ hc hy
    simp only at this ⊢
    rw [this]; rfl
  · intro c h1 h2 hc
    refine h.stay c h1 h2 fun e => hc ?_
    simp only [St.kill, lk_mapH, e]; rfl

/-- What the key b stands for lies in a new block from now on. -/
theorem Rel.move (h : Rel G w0 M S0 σ a w β S) {b : Nat} {fr0 : Bool} {l l' : List A} (hb : lk σ.heap b = some (fr0, l)) (hfr : fr0 = false) (hbK : b < 1000000 ∨ 2000000 ≤ b) {C : Array Value} {Tc : TypeId} (hw : w'.heap = w.heap.push (.cells C Tc)) (hos : w'.os = w.os) (ht : w'.tape = w.tape) (hout : w'.output = w.output)
    (hl : l'.length ≤ C.size) (hc : ∀ (j : Nat) (x : A), l'[j]? = some x → ∃ u, C[j]? = some u ∧ AR (β.set b w.heap.size) S w' x u) : Rel G w0 M S0 ((σ.kill b).wr b l') a w' (β.set b w.heap.size) S := by
  have ho : Olds w w' := fun k hk => by rw [hw, Array.getElem?_push, if_neg (by omega)]
  have hs : w.heap.size ≤ w'.heap.size := by rw [hw]; simp
  have hk := ho.keeps h.imm
  have hsh := ho.shapes
  have hβ : ∀ c, c ≠ b → (β.set b w.heap.size) c = β c := fun c hc => by unfold Own.set; rw [if_neg hc]
  have hlt : ∀ b k, β b = some (some k) → k < w.heap.size := by
    intro b k hb
    have := h.keys b (by rw [hb]; simp)
    cases hl : lk σ.heap b with
    | none => exact absurd hl this
    | some x =>
      obtain ⟨fr, l⟩ := x
      obtain ⟨C, Tc, hC, _⟩ := h.rd b k fr l hb hl
      exact lt_of_heap hC
  have hnew : w'.heap[w.heap.size]? = some (.cells C Tc (0, 0)) := by rw [hw]; simp
  have hle : β.le β := fun _ _ h => h
  have hleS : S.le S := fun _ _ h => h
  have hlook : ∀ c fr l1, lk ((σ.kill b).wr b l').heap c = some (fr, l1) → (c = b ∧ fr = false ∧ l1 = l') ∨ (c ≠ b ∧ ∃ l2, lk σ.heap c = some (fr, l2) ∧ l1 = A.kills b l2) := by
    intro c fr l1 hl1
    simp only [St.wr, St.kill, lk_hset, lk_mapH] at hl1
    split at hl1
    · rename_i e
      subst e
      rw [hb] at hl1
      simp only [Option.map_some, Option.some.injEq, Prod.mk.injEq] at hl1
      exact .inl ⟨rfl, by rw [← hl1.1, hfr], hl1.2.symm⟩
    · rename_i e
      simp only [Option.map_eq_some_iff] at hl1
      obtain ⟨y, hy, e'⟩ := hl1
      obtain ⟨fr', l2⟩ := y
      cases e'
      exact .inr ⟨e, l2, hy, rfl⟩
  refine { h with env := ?_, glob := ?_, keys := ?_, rd := ?_, live := ?_, froz := ?_, fd := ?_, nilb := ?_, inj := ?_, imm := ?_, ext := ?_, stay := ?_, src := ?_ }
  · intro t x hx
    simp only [St.wr, St.kill, lk_mapA, Option.map_eq_some_iff] at hx
    obtain ⟨y, hy, rfl⟩ := hx
    exact AR_kill hβ (AR.mono hle hleS hk hsh (h.env t y hy))
  · exact fun g => DRL.mono hleS hk (h.glob g)
  · intro c hck
    simp only [St.wr, St.kill, lk_hset, lk_mapH]
    split
    · rename_i e
      subst e
      rw [hb]; simp
    · rename_i e
      rw [hβ c e] at hck
      have := h.keys c hck
      cases hh : lk σ.heap c with
      | none => exact absurd hh this
      | some x => simp
  · intro c k fr l1 hck hl1
    rcases hlook c fr l1 hl1 with ⟨rfl, rfl, rfl⟩ | ⟨e, l2, h1, rfl⟩
    · simp only [Own.set, if_true, Option.some.injEq] at hck
      subst hck
      exact ⟨C, Tc, hnew, hl, hc⟩
    · rw [hβ c e] at hck
      exact Rd.kill hβ (Rd.mono hle hleS hk hsh (ho k (hlt c k hck)) (h.rd c k fr l2 hck h1))
  · intro c k l1 hck hl1
    rcases hlook c _ l1 hl1 with ⟨rfl, _, rfl⟩ | ⟨e, l2, h1, rfl⟩
    · simp only [Own.set, if_true, Option.some.injEq] at hck
      subst hck
      exact ⟨fun o hS => by have := h.imm _ _ hS; omega, .inl h.ext.size⟩
    · rw [hβ c e] at hck
      exact h.live c k l2 hck h1
  · intro c k l1 hck hl1
    rcases hlook c _ l1 hl1 with ⟨rfl, h0, rfl⟩ | ⟨e, l2, h1, rfl⟩
    · cases h0
    · rw [hβ c e] at hck
      obtain ⟨ds, h2, h3⟩ := h.froz c k l2 hck h1
      exact ⟨ds, map_d_of_kills h2, DRL.mono hleS hk h3⟩
  · intro c l1 hl1
    rcases hlook c _ l1 hl1 with ⟨rfl, h0, rfl⟩ | ⟨e, l2, h1, rfl⟩
    · cases h0
    · obtain ⟨ds, h2⟩ := h.fd c l2 h1
      exact ⟨ds, map_d_of_kills h2⟩
  · intro c fr l1 hck hl1
    rcases hlook c _ l1 hl1 with ⟨rfl, h0, rfl⟩ | ⟨e, l2, h1, rfl⟩
    · simp [Own.set] at hck
    · rw [hβ c e] at hck
      rw [h.nilb c fr l2 hck h1]; rfl
  · intro c c' k hb1 hb2
    unfold Own.set at hb1 hb2
    split at hb1 <;> split at hb2
    · simp_all
    · cases hb1
      have := hlt _ _ hb2; omega
    · cases hb2
      have := hlt _ _ hb1; omega
    · exact h.inj _ _ _ hb1 hb2
  · intro k o hS
    have := h.imm _ _ hS; omega
  · exact h.ext.olds ho hos ht hout hs
  · intro c h1 h2 hc
    have hcb : c ≠ b := by omega
    rw [hβ c hcb]
    refine h.stay c h1 h2 fun e => hc ?_
    simp only [St.wr, St.kill, lk_hset, lk_mapH, if_neg hcb, e]; rfl
  · intro c k hck
    unfold Own.set at hck
    split at hck
    · cases hck; exact .inl h.ext.size
    · exact h.src c k hck
end
end Go.Ev
