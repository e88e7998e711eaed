/- What the evaluator says of an operation holds. -/
import Derived.Test.YtmgbegcamhkblaaDoorEvF
set_option linter.unusedSimpArgs false
set_option linter.unusedVariables false
namespace Go.Ev
open Go

def Own.set (β : Own) (d k : Nat) : Own := fun b => if b = d then some (some k) else β b
def Own.gh (β : Own) (d : Nat) : Own := fun b => if b = d then some none else β b

section
variable {P : Program} {G : Glob} {T : Tab} {w0 : World} {M : Own} {S0 : Imm} {σ : St} {a : Act} {w w' : World} {β : Own} {S : Imm}

theorem cell_of_heap {b o : Nat} (h : w'.heap[b]? = w.heap[b]?) : w'.cell? ⟨b, o, none⟩ = w.cell? ⟨b, o, none⟩ := by
  simp only [World.cell?, h]

/-- The old blocks lie as they lay. -/
def Olds (w w' : World) : Prop := ∀ k, k < w.heap.size → w'.heap[k]? = w.heap[k]?
theorem Olds.keeps (h : Olds w w') (hS : ∀ k o, S k o → k < w.heap.size) : Keeps S w w' := fun b _ hb => cell_of_heap (h b (hS _ _ hb))
theorem lt_of_heap {k : Nat} {o : Obj} (h : w.heap[k]? = some o) : k < w.heap.size := by
  rcases Nat.lt_or_ge k w.heap.size with h' | h'
  · exact h'
  · simp [Array.getElem?_eq_none h'] at h
theorem Olds.shapes (h : Olds w w') : Shapes w w' := fun k C Tc fr hk => ⟨C, by rw [h k (lt_of_heap hk)]; exact hk, rfl⟩

theorem Ext.olds (h : Ext w0 M w) (ho : Olds w w') (hos : w'.os = w.os) (ht : w'.tape = w.tape) (hout : w'.output = w.output) (hs : w.heap.size ≤ w'.heap.size) : Ext w0 M w' where
  os := hos.trans h.os
  tape := ht.trans h.tape
  output := hout.trans h.output
  size := Nat.le_trans h.size hs
  block := fun k hk hM => (ho k (Nat.lt_of_lt_of_le hk h.size)).trans (h.block k hk hM)
  shapes := fun k C Tc fr hk => by
    obtain ⟨C', h1, h2⟩ := h.shapes k C Tc fr hk
    exact ⟨C', by rw [ho k (lt_of_heap h1)]; exact h1, h2⟩

theorem Rd.mono {β' : Own} {S' : Imm} {k : Nat} {l : List A} (hβ : β.le β') (hS : S.le S') (hw : Keeps S w w') (hs : Shapes w w') (hk : w'.heap[k]? = w.heap[k]?) (h : Rd β S w k l) : Rd β' S' w' k l := by
  obtain ⟨C, Tc, hC, hl, hc⟩ := h
  refine ⟨C, Tc, hk.trans hC, hl, fun j x hx => ?_⟩
  obtain ⟨u, hu, hR⟩ := hc j x hx
  exact ⟨u, hu, AR.mono hβ hS hw hs hR⟩

/-- The world goes on, old memory as it was; more may be settled of the new. -/
theorem Rel.olds {S' : Imm} (h : Rel G w0 M S0 σ a w β S) (ho : Olds w w') (hos : w'.os = w.os) (ht : w'.tape = w.tape) (hout : w'.output = w.output) (hs : w.heap.size ≤ w'.heap.size)
    (hS : S.le S') (hS' : ∀ k o, S' k o → S k o ∨ (w.heap.size ≤ k ∧ k < w'.heap.size)) : Rel G w0 M S0 σ a w' β S' := by
  have hk := ho.keeps h.imm
  have hsh := ho.shapes
  have hlt : ∀ b k, β b = some (some k) → k < w.heap.size := by
    intro b k hb
    have := h.keys b (by rw [hb]; simp)
    cases hl : lk σ.heap b with
    | none => exact absurd hl this
    | some x =>
      obtain ⟨fr, l⟩ := x
      obtain ⟨C, Tc, hC, _⟩ := h.rd b k fr l hb hl
      exact lt_of_heap hC
  refine { h with env := ?_, glob := ?_, rd := ?_, live := ?_, froz := ?_, imm := ?_, old := ?_, ext := ?_ }
  · exact fun t x hx => AR.mono (fun _ _ h => h) hS hk hsh (h.env t x hx)
  · exact fun g => DRL.mono hS hk (h.glob g)
  · exact fun b k fr l hb hl => Rd.mono (fun _ _ h => h) hS hk hsh (ho k (hlt b k hb)) (h.rd b k fr l hb hl)
  · intro b k l hb hl
    obtain ⟨h1, h2⟩ := h.live b k l hb hl
    refine ⟨fun o hS'' => ?_, h2⟩
    rcases hS' _ _ hS'' with h3 | h3
    · exact h1 _ h3
    · have := hlt b k hb; omega
  · intro b k l hb hl
    obtain ⟨ds, h1, h2⟩ := h.froz b k l hb hl
    exact ⟨ds, h1, DRL.mono hS hk h2⟩
  · intro k o hk'
    rcases hS' _ _ hk' with h3 | h3
    · have := h.imm _ _ h3; omega
    · exact h3.2
  · intro k o hk' hlt0
    rcases hS' _ _ hk' with h3 | h3
    · exact h.old _ _ h3 hlt0
    · have := h.ext.size; omega
  · exact h.ext.olds ho hos ht hout hs

/-- A new block of the call's own. -/
theorem Rel.push (h : Rel G w0 M S0 σ a w β S) {d : Nat} (hd : lk σ.heap d = none) (hdK : d < 1000000) {C : Array Value} {Tc : TypeId} (hw : w'.heap = w.heap.push (.cells C Tc)) (hos : w'.os = w.os) (ht : w'.tape = w.tape) (hout : w'.output = w.output)
    {l : List A} (hl : l.length ≤ C.size) (hc : ∀ (j : Nat) (x : A), l[j]? = some x → ∃ u, C[j]? = some u ∧ AR β S w x u) : Rel G w0 M S0 (σ.new d l) a w' (β.set d w.heap.size) S ∧ β.le (β.set d w.heap.size) ∧ Keeps S w w' ∧ Shapes w w' := by
  have ho : Olds w w' := fun k hk => by rw [hw, Array.getElem?_push, if_neg (by omega)]
  have hs : w.heap.size ≤ w'.heap.size := by rw [hw]; simp
  have hk := ho.keeps h.imm
  have hsh := ho.shapes
  have hβd : β d = none := by
    cases hb : β d with
    | none => rfl
    | some k => exact absurd hd (h.keys d (by rw [hb]; simp))
  have hle : β.le (β.set d w.heap.size) := fun b k hb => by
    unfold Own.set
    rw [if_neg]
    · exact hb
    · rintro rfl; rw [hβd] at hb; cases hb
  have hlt : ∀ b k, β b = some (some k) → k < w.heap.size := by
    intro b k hb
    have := h.keys b (by rw [hb]; simp)
    cases hl : lk σ.heap b with
    | none => exact absurd hl this
    | some x =>
      obtain ⟨fr, l⟩ := x
      obtain ⟨C, Tc, hC, _⟩ := h.rd b k fr l hb hl
      exact lt_of_heap hC
  have hnew : w'.heap[w.heap.size]? = some (.cells C Tc (0, 0)) := by rw [hw]; simp
  refine ⟨?_, hle, hk, hsh⟩
  refine { h with env := ?_, glob := ?_, keys := ?_, rd := ?_, live := ?_, froz := ?_, fd := ?_, nilb := ?_, inj := ?_, imm := ?_, ext := ?_, stay := ?_, src := ?_ }
  · exact fun t x hx => AR.mono hle (fun _ _ h => h) hk hsh (h.env t x hx)
  · exact fun g => DRL.mono (fun _ _ h => h) hk (h.glob g)
  · intro b hb
    simp only [St.new, lk]
    split
    · simp
    · rename_i hne
      have : β b ≠ none := by
        have := hb; unfold Own.set at this; rwa [if_neg (fun e => hne e.symm)] at this
      exact h.keys b this
  · intro b k fr l' hb hl'
    simp only [St.new, lk] at hl'
    unfold Own.set at hb
    split at hl'
    · rename_i e
      subst e
      cases hl'
      simp only [if_true, Option.some.injEq] at hb
      subst hb
      refine ⟨C, Tc, hnew, hl, fun j x hx => ?_⟩
      obtain ⟨u, hu, hR⟩ := hc j x hx
      exact ⟨u, hu, AR.mono hle (fun _ _ h => h) hk hsh hR⟩
    · rename_i hne
      rw [if_neg (fun e => hne e.symm)] at hb
      exact Rd.mono hle (fun _ _ h => h) hk hsh (ho k (hlt b k hb)) (h.rd b k fr l' hb hl')
  · intro b k l' hb hl'
    simp only [St.new, lk] at hl'
    unfold Own.set at hb
    split at hl'
    · rename_i e
      subst e
      simp only [if_true, Option.some.injEq] at hb
      subst hb
      exact ⟨fun o hS => by have := h.imm _ _ hS; omega, .inl h.ext.size⟩
    · rename_i hne
      rw [if_neg (fun e => hne e.symm)] at hb
      exact h.live b k l' hb hl'
  · intro b k l' hb hl'
    simp only [St.new, lk] at hl'
    unfold Own.set at hb
    split at hl'
    · cases hl'
    · rename_i hne
      rw [if_neg (fun e => hne e.symm)] at hb
      obtain ⟨ds, h1, h2⟩ := h.froz b k l' hb hl'
      exact ⟨ds, h1, DRL.mono (fun _ _ h => h) hk h2⟩
  · intro b l' hl'
    simp only [St.new, lk] at hl'
    split at hl'
    · cases hl'
    · exact h.fd b l' hl'
  · intro b fr l' hb hl'
    simp only [St.new, lk] at hl'
    unfold Own.set at hb
    split at hl'
    · rename_i e
      subst e
      simp at hb
    · rename_i hne
      rw [if_neg (fun e => hne e.symm)] at hb
      exact h.nilb b fr l' hb hl'
  · intro b b' k hb hb'
    unfold Own.set at hb hb'
    split at hb <;> split at hb'
    · simp_all
    · cases hb
      have := hlt _ _ hb'; omega
    · cases hb'
      have := hlt _ _ hb; omega
    · exact h.inj _ _ _ hb hb'
  · intro k o hk'
    have := h.imm _ _ hk'
    omega
  · exact h.ext.olds ho hos ht hout hs
  · intro b h1 h2 hb
    simp only [St.new, lk] at hb
    split at hb
    · omega
    · rename_i hne
      unfold Own.set
      rw [if_neg (fun e => hne e.symm)]
      exact h.stay b h1 h2 hb
  · intro b k hb
    unfold Own.set at hb
    split at hb
    · cases hb; exact .inl h.ext.size
    · exact h.src b k hb

/-- A key for nothing: a nil slice of the call's own. -/
theorem Rel.ghost (h : Rel G w0 M S0 σ a w β S) {d : Nat} (hd : lk σ.heap d = none) (hdK : d < 1000000) : Rel G w0 M S0 (σ.new d []) a w (β.gh d) S := by
  have hβd : β d = none := by
    cases hb : β d with
    | none => rfl
    | some k => exact absurd hd (h.keys d (by rw [hb]; simp))
  have hle : β.le (β.gh d) := fun b k hb => by
    unfold Own.gh
    rw [if_neg]
    · exact hb
    · rintro rfl; rw [hβd] at hb; cases hb
  have hk : Keeps S w w := fun _ _ _ => rfl
  have hsh : Shapes w w := fun k C Tc fr hk => ⟨C, hk, rfl⟩
  have hon : ∀ b k, (β.gh d) b = some (some k) → d ≠ b ∧ β b = some (some k) := by
    intro b k hb
    unfold Own.gh at hb
    split at hb
    · cases hb
    · rename_i e; exact ⟨fun e' => e e'.symm, hb⟩
  refine { h with env := ?_, keys := ?_, rd := ?_, live := ?_, froz := ?_, fd := ?_, nilb := ?_, inj := ?_, stay := ?_, src := fun b k hb => h.src b k (hon b k hb).2 }
  · exact fun t x hx => AR.mono hle (fun _ _ h => h) hk hsh (h.env t x hx)
  · intro b hb
    simp only [St.new, lk]
    split
    · simp
    · rename_i hne
      have : β b ≠ none := by
        have := hb; unfold Own.gh at this; rwa [if_neg (fun e => hne e.symm)] at this
      exact h.keys b this
  · intro b k fr l' hb hl'
    obtain ⟨hne, hb⟩ := hon b k hb
    simp only [St.new, lk, if_neg hne] at hl'
    exact Rd.mono hle (fun _ _ h => h) hk hsh rfl (h.rd b k fr l' hb hl')
  · intro b k l' hb hl'
    obtain ⟨hne, hb⟩ := hon b k hb
    simp only [St.new, lk, if_neg hne] at hl'
    exact h.live b k l' hb hl'
  · intro b k l' hb hl'
    obtain ⟨hne, hb⟩ := hon b k hb
    simp only [St.new, lk, if_neg hne] at hl'
    exact h.froz b k l' hb hl'
  · intro b l' hl'
    simp only [St.new, lk] at hl'
    split at hl'
    · cases hl'
    · exact h.fd b l' hl'
  · intro b fr l' hb hl'
    simp only [St.new, lk] at hl'
    split at hl'
    · cases hl'; rfl
    · rename_i hne
      unfold Own.gh at hb
      rw [if_neg (fun e => hne e.symm)] at hb
      exact h.nilb b fr l' hb hl'
  · intro b b' k hb hb'
    exact h.inj b b' k (hon b k hb).2 (hon b' k hb').2
  · intro b h1 h2 hb
    simp only [St.new, lk] at hb
    split at hb
    · omega
    · rename_i hne
      unfold Own.gh
      rw [if_neg (fun e => hne e.symm)]
      exact h.stay b h1 h2 hb

theorem ARs_rep {z : List A} {vz : List Value} (h : ARs β S w z vz) : ∀ n, ARs β S w (repA n z) (repA n vz)
  | 0 => by simp [repA, ARs]
  | n + 1 => by
    have ih := ARs_rep h n
    have e1 : repA (n + 1) z = z ++ repA n z := by simp [repA, List.replicate_succ]
    have e2 : repA (n + 1) vz = vz ++ repA n vz := by simp [repA, List.replicate_succ]
    rw [e1, e2]
    have l1 := ARs_length h
    have l2 := ARs_length ih
    refine ARs_mk (by simp [l1, l2]) fun j x u hx hu => ?_
    rw [List.getElem?_append] at hx hu
    rw [l1] at hu
    split at hx
    · rename_i hlt
      rw [if_pos hlt] at hu
      obtain ⟨u', hu', hR⟩ := ARs_get h hx
      rw [hu] at hu'; cases hu'; exact hR
    · rename_i hlt
      rw [if_neg hlt] at hu
      obtain ⟨u', hu', hR⟩ := ARs_get ih hx
      rw [hu] at hu'; cases hu'; exact hR

theorem length_rep {α : Type} (z : List α) : ∀ n : Nat, (repA n z).length = n * z.length
  | 0 => by simp [repA]
  | n + 1 => by
    have e1 : repA (n + 1) z = z ++ repA n z := by simp [repA, List.replicate_succ]
    rw [e1, List.length_append, length_rep z n, Nat.succ_mul, Nat.add_comm]

theorem range_rep (z : Array Value) (hz : z.size ≠ 0) : ∀ n : Nat, ((Array.range (n * z.size)).map (fun i => z[i % z.size]!)).toList = repA n z.toList := by
  intro n
  refine List.ext_getElem? fun i => ?_
  have hlen : (repA n z.toList).length = n * z.size := by simp [length_rep]
  by_cases hi : i < n * z.size
  · have hm : i % z.size < z.size := Nat.mod_lt _ (by omega)
    have e1 : ((Array.range (n * z.size)).map (fun i => z[i % z.size]!)).toList[i]? = some (z[i % z.size]) := by
      simp [hi, hm]
    rw [e1]
    clear e1 hlen
    induction n generalizing i with
    | zero => simp at hi
    | succ n ih =>
      have e2 : repA (n + 1) z.toList = z.toList ++ repA n z.toList := by simp [repA, List.replicate_succ]
      rw [e2, List.getElem?_append]
      split
      · rename_i h1
        simp at h1
        simp [Nat.mod_eq_of_lt h1, h1]
      · rename_i h1
        simp at h1
        have h2 : i - z.size < n * z.size := by rw [Nat.succ_mul] at hi; omega
        have h3 := ih (i - z.size) h2 (Nat.mod_lt _ (by omega))
        simp only [Array.length_toList]
        rw [← h3]
        congr 1
        have : i % z.size = (i - z.size) % z.size := Nat.mod_eq_sub_mod h1
        simp only [this]
  · rw [List.getElem?_eq_none (by simp; omega), List.getElem?_eq_none (by omega)]

theorem ARs_at {l : List A} {C : Array Value} (h : ARs β S w l C.toList) : l.length ≤ C.size ∧ ∀ (j : Nat) (x : A), l[j]? = some x → ∃ u, C[j]? = some u ∧ AR β S w x u :=
  ⟨by have := ARs_length h; simp at this; omega, fun j x hx => by
    obtain ⟨u, hu, hR⟩ := ARs_get h hx
    exact ⟨u, by simpa using hu, hR⟩⟩

theorem wrap_i64 {n : Int} (h : 0 ≤ n) (h' : n < 9223372036854775808) : IntKind.i64.wrap n = n := by
  have e : IntKind.i64.wrap n = if (true && decide (n % 2 ^ 64 ≥ 2 ^ 63)) = true then n % 2 ^ 64 - 2 ^ 64 else n % 2 ^ 64 := rfl
  rw [e, if_neg (by simp; omega)]
  omega

theorem run_makeSlice' {t e : Nat} {i : TypeInfo} {z : Value} {l : Int} {k k' : IntKind} {s : Nat} (hu : P.underlying t = some (.slice e)) (hi : (typeInfo e).run P w = .ok i w) (hs : (sizeOf e).run P w = .ok s w) (hz : (zeroValue e).run P w = .ok z w)
    (hb : i.bytes ≠ 0) (h0 : 0 ≤ l) (h1 : i.bytes * l ≤ 140737488355328) (hzs : z.cells.size = s) :
    (Instr.makeSlice t (.int k l) (.int k' l)).run P w = .ok (.slice (some ⟨w.heap.size, 0, none⟩) l.toNat l.toNat) (w.alloc (.cells ((Array.range (l.toNat * z.cells.size)).map (fun i => z.cells[i % z.cells.size]!)) e)) := by
  have hlt : l ≤ 140737488355328 := by
    have h2 : (1 : Int) * l ≤ i.bytes * l := Int.mul_le_mul_of_nonneg_right (by omega) h0
    omega
  have hw := wrap_i64 h0 (by omega)
  have hg : (decide (l < 0) || decide ((i.bytes : Int) * l > 2 ^ 48)) = false := by
    simp only [Bool.or_eq_false_iff, decide_eq_false_iff_not]; omega
  have hg2 : ¬ (((decide (l < 0) || decide ((i.bytes : Int) * l > 2 ^ 48)) = true ∨ l < 0) ∨ l > l) := by
    rw [hg]; simp; omega
  subst hzs
  simp only [Instr.makeSlice, Sem.run_bind, run_underlying hu, Result.andThen_ok, asInt, asIntOf, pure_bind, Sem.run_pure, hi, hw]
  rw [if_neg (by simpa using hg2)]
  simp only [Sem.run_bind, run_askRoom, hs, Result.andThen_ok]
  by_cases hn : l.toNat * z.cells.size = 0
  · rw [if_pos hn, hn]
    have e0 : ∀ f : Nat → Value, (Array.range 0).map f = #[] := fun f => by simp
    simp [newRow, e0]
  · rw [if_neg hn]
    simp [hz, newRow]

theorem run_buildSlice' {t e : Nat} {z : Value} {s len : Nat} {parts : Array (Nat × Value)} {vc : Array Value} (hu : P.underlying t = some (.slice e)) (hs : (sizeOf e).run P w = .ok s w) (hz : (zeroValue e).run P w = .ok z w)
    (hl : len * s ≤ 4096) (hzs : z.cells.size = s) (hf : Instr.fill (fun i => some (i * s, s)) ((Array.range (len * z.cells.size)).map (fun i => z.cells[i % z.cells.size]!)) parts.toList = some vc) :
    (Instr.buildSlice t len parts).run P w = .ok (.slice (some ⟨w.heap.size, 0, none⟩) len len) (w.alloc (.cells vc e)) := by
  subst hzs
  simp only [Instr.buildSlice, Sem.run_bind, run_underlying hu, Result.andThen_ok, hs]
  rw [if_neg (by omega)]
  by_cases hn : len * z.cells.size = 0
  · rw [hn] at hf
    have e0 : ((Array.range 0).map (fun i => z.cells[i % z.cells.size]!)) = #[] := by simp
    rw [e0] at hf
    rw [if_pos hn, hn]
    have e1 : ∀ f : Nat → Value, (Array.range 0).map f = #[] := fun f => by simp
    simp only [Sem.run_pure, Result.andThen_ok, Sem.run_bind, e1, hf]
    simp [newRow]
  · rw [if_neg hn]
    simp [hz, newRow, hf]

theorem run_v' {s : Sem Value} {v : Value} (h : s.run P w = .ok v w') : (do pure (.value (← s)) : Sem Next).run P w = .ok (.value v) w' := by
  simp [h]
theorem heap_alloc (w : World) (o : Obj) : (w.alloc o).heap[w.heap.size]? = some o := by
  show (w.heap.push o)[w.heap.size]? = some o
  simp
theorem fill_size {f : Nat → Option (Nat × Nat)} : ∀ (ps : List (Nat × Value)) (cs vc : Array Value), Instr.fill f cs ps = some vc → vc.size = cs.size
  | [], cs, vc, h' => by simp [Instr.fill] at h'; rw [h']
  | p :: ps, cs, vc, h' => by
    obtain ⟨i, v⟩ := p
    simp only [Instr.fill] at h'
    split at h'
    · cases h'
    · rename_i off size _
      split at h'
      · cases h'
      · rw [fill_size ps _ _ h']
        have e2 : ∀ (us : List (Value × Nat)) (cs : Array Value), (us.foldl (fun (cs : Array Value) x => cs.setIfInBounds (off + x.2) x.1) cs).size = cs.size := by
          intro us
          induction us with
          | nil => intro cs; rfl
          | cons u us ih => intro cs; simp [ih]
        rw [← Array.foldl_toList]
        exact e2 _ _

/-- NEW MEMORY. -/
theorem newEv_sound (hT : TabOk P T) (h : Rel G w0 M S0 σ a w β S) {o : Oper} {d : Nat} (hd : lk σ.heap d = none) (hdK : d < 1000000) {K : A → List A → Prop} (hk : newEv T (σ.ev G) d o.op K) :
    ∃ r l v w' β', K r l ∧ (execOp a.eval o).run P w = .ok (.value v) w' ∧ Rel G w0 M S0 (σ.new d l) a w' β' S ∧ AR β' S w' r v := by
  obtain ⟨dst, op, type, pos, after, guard⟩ := o
  simp only at hk
  unfold newEv at hk
  split at hk
  · -- alloc
    rename_i e
    split at hk
    · rename_i y hy
      obtain ⟨hz0, hK⟩ := hk
      have hz : y.zero ≠ [] := by
        intro e; rw [e] at hz0; simp at hz0
      obtain ⟨z, hrz, hzc⟩ := run_zero' hT hy w hz
      have hAR : ARs β S w (zeros y.zero) z.cells.toList := by rw [hzc]; exact zeros_ARs _
      obtain ⟨hl, hc⟩ := ARs_at hAR
      obtain ⟨h1, h2, h3, h4⟩ := h.push (w' := w.alloc (.cells z.cells e)) hd hdK rfl rfl rfl rfl hl hc
      refine ⟨_, _, .pointer (some ⟨w.heap.size, 0, none⟩), _, _, hK, ?_, h1, ?_⟩
      · simp [execOp, Instr.alloc, hrz, newVar, newRow]
      · simp only [AR]; exact ⟨w.heap.size, by simp [Own.set], rfl⟩
    · exact hk.elim
  · -- box
    rename_i e x
    obtain ⟨hf, hK⟩ := hk
    have hAR := A.cells_AR (h.ev x) hf
    obtain ⟨hl, hc⟩ := ARs_at hAR
    obtain ⟨h1, h2, h3, h4⟩ := h.push (w' := w.alloc (.cells (a.eval x).cells e)) hd hdK rfl rfl rfl rfl hl hc
    refine ⟨_, _, .pointer (some ⟨w.heap.size, 0, none⟩), _, _, hK, ?_, h1, ?_⟩
    · simp [execOp, Instr.box, newVar, newRow]
    · simp only [AR]; exact ⟨w.heap.size, by simp [Own.set], rfl⟩
  · -- makeSlice
    rename_i t l c
    obtain ⟨e, ye, hu, hye, hk⟩ := tySlice_elim hT hk
    have hvl := h.ev l
    have hvc := h.ev c
    split at hk
    · rename_i kl il kc ic e1 e2
      rw [e1] at hvl
      rw [e2] at hvc
      simp only [AR, DR] at hvl hvc
      obtain ⟨rfl, ⟨h0, hb⟩, hrow, _, rfl, hK⟩ := hk
      obtain ⟨_, hz, hzl, hb0⟩ := Ty.rowOk_elim hrow
      obtain ⟨z, hrz, hzc⟩ := run_zero' hT hye w hz
      obtain ⟨i, hi, hib, his⟩ := run_typeInfo' hT hye w
      have hzs : z.cells.size = ye.size := by
        have := congrArg List.length hzc
        simpa [hzl] using this
      have hsz : ye.size ≠ 0 := by
        rw [← hzl]; intro h'; exact hz (List.length_eq_zero_iff.1 h')
      have hC := range_rep z.cells (by omega) il.toNat
      have hAR : ARs β S w (repA il.toNat (zeros ye.zero)) ((Array.range (il.toNat * z.cells.size)).map (fun i => z.cells[i % z.cells.size]!)).toList := by
        rw [hC, hzc]; exact ARs_rep (zeros_ARs _) _
      obtain ⟨hl, hc⟩ := ARs_at hAR
      have hrun := run_makeSlice' (P := P) (w := w) (k := kl) (k' := kc) hu hi (run_sizeOf' hT hye w) hrz (by omega) h0 (by rw [hib]; exact hb) hzs
      obtain ⟨h1, h2, h3, h4⟩ := h.push (w' := w.alloc (.cells ((Array.range (il.toNat * z.cells.size)).map (fun i => z.cells[i % z.cells.size]!)) e)) hd hdK rfl rfl rfl rfl hl hc
      refine ⟨_, _, .slice (some ⟨w.heap.size, 0, none⟩) il.toNat il.toNat, _, _, hK, ?_, h1, ?_⟩
      · simp only [execOp, hvl, hvc]; exact run_v' hrun
      · simp only [AR]
        refine .inl ⟨w.heap.size, by simp [Own.set], il.toNat, ((Array.range (il.toNat * z.cells.size)).map (fun i => z.cells[i % z.cells.size]!)), e, (0, 0), rfl, Nat.le_refl _, heap_alloc _ _, ?_⟩
        simp [hzs]
    · exact hk.elim
  · -- buildSlice
    rename_i t len parts
    obtain ⟨e, ye, hu, hye, hrow, hk⟩ := tySlice_elim hT hk
    simp only [Bool.and_eq_true, decide_eq_true_eq] at hrow
    obtain ⟨hrow, hlen⟩ := hrow
    obtain ⟨_, hz, hzl, _⟩ := Ty.rowOk_elim hrow
    obtain ⟨z, hrz, hzc⟩ := run_zero' hT hye w hz
    have hzs : z.cells.size = ye.size := by
      have := congrArg List.length hzc
      simpa [hzl] using this
    have hsz : ye.size ≠ 0 := by
      rw [← hzl]; intro h'; exact hz (List.length_eq_zero_iff.1 h')
    have hC := range_rep z.cells (by omega) len
    have hAR : ARs β S w (repA len (zeros ye.zero)) ((Array.range (len * z.cells.size)).map (fun i => z.cells[i % z.cells.size]!)).toList := by
      rw [hC, hzc]; exact ARs_rep (zeros_ARs _) _
    have hp : PartsR β S w (parts.toList.map fun p => (p.1, σ.ev G p.2)) (parts.map fun p => (p.1, a.eval p.2)).toList := by
      simpa using PartsR.map (fun x => h.ev x) parts.toList
    obtain ⟨c, vc, hK, hR, hfill⟩ := fillA_sound hk hp hAR
    have hrun := run_buildSlice' (P := P) (w := w) (parts := parts.map fun p => (p.1, a.eval p.2)) hu (run_sizeOf' hT hye w) hrz hlen hzs hfill
    obtain ⟨hl, hc⟩ := ARs_at hR
    obtain ⟨h1, h2, h3, h4⟩ := h.push (w' := w.alloc (.cells vc e)) hd hdK rfl rfl rfl rfl hl hc
    have hsize : vc.size = len * ye.size := by
      rw [fill_size _ _ _ hfill]
      simp [hzs]
    refine ⟨_, _, .slice (some ⟨w.heap.size, 0, none⟩) len len, _, _, hK, ?_, h1, ?_⟩
    · simp only [execOp]; exact run_v' hrun
    · simp only [AR]
      exact .inl ⟨w.heap.size, by simp [Own.set], len, vc, e, (0, 0), rfl, Nat.le_refl _, heap_alloc _ _, by omega⟩
  · -- x[:0:0]
    rename_i t x lo hi m
    split at hk
    · rename_i n cells e1
      have hx := h.ev x
      rw [e1] at hx
      obtain ⟨e, ye, hu, hye, hk⟩ := tySlice_elim hT hk
      split at hk
      · rename_i hi _
        obtain ⟨kh, km, e2, e3, hK⟩ := hk
        have hvh := h.ev hi
        have hvm := h.ev m
        rw [e2] at hvh
        rw [e3] at hvm
        simp only [AR, DR] at hx hvh hvm
        obtain ⟨b, c, hx, hc, hl⟩ := hx
        refine ⟨_, _, .slice b 0 0, w, _, hK, ?_, h.ghost hd hdK, ?_⟩
        · simp only [execOp]
          refine run_v ?_
          simp [Instr.sliceAt, Instr.slice, run_underlying hu, hx, hvh, hvm, Instr.sliceBounds, run_sliceBound, run_sizeOf' hT hye]
        · simp only [AR]; exact .inr ⟨trivial, by simp [Own.gh], b, rfl⟩
      · exact hk.elim
    · exact hk.elim
  · exact hk.elim
end
end Go.Ev
