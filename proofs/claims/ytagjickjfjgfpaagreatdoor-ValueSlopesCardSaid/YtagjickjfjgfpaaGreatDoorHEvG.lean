/- Contracts of the given functions, on data. Conditions stand in each theorem. -/
import Derived.Test.YtagjickjfjgfpaaGreatDoorHEvD
set_option linter.unusedSimpArgs false
set_option linter.unusedVariables false
namespace Go.Ev
open Go
def Own.set (β : Own) (d k : Nat) : Own := fun b => if b = d then some (some k) else β b
def Own.gh (β : Own) (d : Nat) : Own := fun b => if b = d then some none else β b
section
variable {P : Program} {G : bb} {T : Tab} {w0 : World} {M : Own} {S0 : Imm} {σ : St} {a : Act} {w w' : World} {β : Own} {S : Imm}
theorem j0 {b o : Nat} (h : w'.heap[b]? = w.heap[b]?) : w'.cell? ⟨b, o, none⟩ = w.cell? ⟨b, o, none⟩ := by
 simp only [World.cell?, h]
def zz (w w' : World) : Prop := ∀ k, k < w.heap.size → w'.heap[k]? = w.heap[k]?
theorem zz.keeps (h : zz w w') (hS : ∀ k o, S k o → k < w.heap.size) : ta S w w' := fun b _ hb => j0 (h b (hS _ _ hb))
theorem fp {k : Nat} {o : Obj} (h : w.heap[k]? = some o) : k < w.heap.size := by
 rcases Nat.lt_or_ge k w.heap.size with h' | h'
 ·exact h'
 ·simp [Array.getElem?_eq_none h'] at h
theorem zz.s7 (h : zz w w') : qo w w' := fun k C Tc fr hk => ⟨C, by rw [h k (fp hk)]; exact hk, rfl⟩
theorem Ext.olds (h : Ext w0 M w) (ho : zz w w') (hos : w'.os = w.os) (ht : w'.tape = w.tape) (hout : w'.output = w.output) (hs : w.heap.size ≤ w'.heap.size) : Ext w0 M w' where
 os := hos.trans h.os
 tape := ht.trans h.tape
 output := hout.trans h.output
 size := Nat.le_trans h.size hs
 block := fun k hk hM => (ho k (Nat.lt_of_lt_of_le hk h.size)).trans (h.block k hk hM)
 s7 := fun k C Tc fr hk => by
  obtain ⟨C', h1, h2⟩ := h.s7 k C Tc fr hk
  exact ⟨C', by rw [ho k (fp h1)]; exact h1, h2⟩
theorem Rd.mono {β' : Own} {S' : Imm} {k : Nat} {l : List A} (hβ : β.le β') (hS : S.le S') (hw : ta S w w') (hs : qo w w') (hk : w'.heap[k]? = w.heap[k]?) (h : Rd β S w k l) : Rd β' S' w' k l := by
 obtain ⟨C, Tc, hC, hl, hc⟩ := h
 refine ⟨C, Tc, hk.trans hC, hl, fun j x hx => ?_⟩
 obtain ⟨u, hu, hR⟩ := hc j x hx
 exact ⟨u, hu, AR.mono hβ hS hw hs hR⟩
theorem Rel.olds {S' : Imm} (h : Rel G w0 M S0 σ a w β S) (ho : zz w w') (hos : w'.os = w.os) (ht : w'.tape = w.tape) (hout : w'.output = w.output) (hs : w.heap.size ≤ w'.heap.size)
  (hS : S.le S') (hS' : ∀ k o, S' k o → S k o ∨ (w.heap.size ≤ k ∧ k < w'.heap.size)) : Rel G w0 M S0 σ a w' β S' := by
 have hk := ho.keeps h.imm
 have hsh := ho.s7
 have hlt : ∀ b k, β b = some (some k) → k < w.heap.size := by
  intro b k hb
  have := h.keys b (by rw [hb]; simp)
  cases hl : lk σ.heap b with
  | none => exact absurd hl this
  | some x =>
   obtain ⟨fr, l⟩ := x
   obtain ⟨C, Tc, hC, _⟩ := h.rd b k fr l hb hl
   exact fp hC
 refine { h with env := ?_, glob := ?_, rd := ?_, live := ?_, froz := ?_, imm := ?_, old := ?_, ext := ?_ }
 ·exact fun t x hx => AR.mono (fun _ _ h => h) hS hk hsh (h.env t x hx)
 ·exact fun g => DRL.mono hS hk (h.glob g)
 ·exact fun b k fr l hb hl => Rd.mono (fun _ _ h => h) hS hk hsh (ho k (hlt b k hb)) (h.rd b k fr l hb hl)
 ·intro b k l hb hl
  obtain ⟨h1, h2⟩ := h.live b k l hb hl
  refine ⟨fun o hS'' => ?_, h2⟩
  rcases hS' _ _ hS'' with h3 | h3
  ·exact h1 _ h3
  ·have := hlt b k hb; omega
 ·intro b k l hb hl
  obtain ⟨ds, h1, h2⟩ := h.froz b k l hb hl
  exact ⟨ds, h1, DRL.mono hS hk h2⟩
 ·intro k o hk'
  rcases hS' _ _ hk' with h3 | h3
  ·have := h.imm _ _ h3; omega
  ·exact h3.2
 ·intro k o hk' hlt0
  rcases hS' _ _ hk' with h3 | h3
  ·exact h.old _ _ h3 hlt0
  ·have := h.ext.size; omega
 ·exact h.ext.olds ho hos ht hout hs
theorem Rel.push (h : Rel G w0 M S0 σ a w β S) {d : Nat} (hd : lk σ.heap d = none) (hdK : d < 1000000) {C : Array Value} {Tc : TypeId} (hw : w'.heap = w.heap.push (.cells C Tc)) (hos : w'.os = w.os) (ht : w'.tape = w.tape) (hout : w'.output = w.output)
  {l : List A} (hl : l.length ≤ C.size) (hc : ∀ (j : Nat) (x : A), l[j]? = some x → ∃ u, C[j]? = some u ∧ AR β S w x u) : Rel G w0 M S0 (σ.new d l) a w' (β.set d w.heap.size) S ∧ β.le (β.set d w.heap.size) ∧ ta S w w' ∧ qo w w' := by
 have ho : zz w w' := fun k hk => by rw [hw, Array.getElem?_push, if_neg (by omega)]
 have hs : w.heap.size ≤ w'.heap.size := by rw [hw]; simp
 have hk := ho.keeps h.imm
 have hsh := ho.s7
 have hβd : β d = none := by
  cases hb : β d with
  | none => rfl
  | some k => exact absurd hd (h.keys d (by rw [hb]; simp))
 have hle : β.le (β.set d w.heap.size) := fun b k hb => by
  unfold Own.set
  rw [if_neg]
  ·exact hb
  ·rintro rfl; rw [hβd] at hb; cases hb
 have hlt : ∀ b k, β b = some (some k) → k < w.heap.size := by
  intro b k hb
  have := h.keys b (by rw [hb]; simp)
  cases hl : lk σ.heap b with
  | none => exact absurd hl this
  | some x =>
   obtain ⟨fr, l⟩ := x
   obtain ⟨C, Tc, hC, _⟩ := h.rd b k fr l hb hl
   exact fp hC
 have hnew : w'.heap[w.heap.size]? = some (.cells C Tc (0, 0)) := by rw [hw]; simp
 refine ⟨?_, hle, hk, hsh⟩
 refine { h with env := ?_, glob := ?_, keys := ?_, rd := ?_, live := ?_, froz := ?_, fd := ?_, nilb := ?_, inj := ?_, imm := ?_, ext := ?_, stay := ?_, src := ?_ }
 ·exact fun t x hx => AR.mono hle (fun _ _ h => h) hk hsh (h.env t x hx)
 ·exact fun g => DRL.mono (fun _ _ h => h) hk (h.glob g)
 ·intro b hb
  simp only [St.new, lk]
  split
  ·simp
  ·rename_i hne
   have : β b ≠ none := by
    have := hb; unfold Own.set at this; rwa [if_neg (fun e => hne e.symm)] at this
   exact h.keys b this
 ·intro b k fr l' hb hl'
  simp only [St.new, lk] at hl'
  unfold Own.set at hb
  split at hl'
  ·rename_i e
   subst e
   cases hl'
   simp only [if_true, Option.some.injEq] at hb
   subst hb
   refine ⟨C, Tc, hnew, hl, fun j x hx => ?_⟩
   obtain ⟨u, hu, hR⟩ := hc j x hx
   exact ⟨u, hu, AR.mono hle (fun _ _ h => h) hk hsh hR⟩
  ·rename_i hne
   rw [if_neg (fun e => hne e.symm)] at hb
   exact Rd.mono hle (fun _ _ h => h) hk hsh (ho k (hlt b k hb)) (h.rd b k fr l' hb hl')
 ·intro b k l' hb hl'
  simp only [St.new, lk] at hl'
  unfold Own.set at hb
  split at hl'
  ·rename_i e
   subst e
   simp only [if_true, Option.some.injEq] at hb
   subst hb
   exact ⟨fun o hS => by have := h.imm _ _ hS; omega, .inl h.ext.size⟩
  ·rename_i hne
   rw [if_neg (fun e => hne e.symm)] at hb
   exact h.live b k l' hb hl'
 ·intro b k l' hb hl'
  simp only [St.new, lk] at hl'
  unfold Own.set at hb
  split at hl'
  ·cases hl'
  ·rename_i hne
   rw [if_neg (fun e => hne e.symm)] at hb
   obtain ⟨ds, h1, h2⟩ := h.froz b k l' hb hl'
   exact ⟨ds, h1, DRL.mono (fun _ _ h => h) hk h2⟩
 ·intro b l' hl'
  simp only [St.new, lk] at hl'
  split at hl'
  ·cases hl'
  ·exact h.fd b l' hl'
 ·intro b fr l' hb hl'
  simp only [St.new, lk] at hl'
  unfold Own.set at hb
  split at hl'
  ·rename_i e
   subst e
   simp at hb
  ·rename_i hne
   rw [if_neg (fun e => hne e.symm)] at hb
   exact h.nilb b fr l' hb hl'
 ·intro b b' k hb hb'
  unfold Own.set at hb hb'
  split at hb <;> split at hb'
  ·simp_all
  ·cases hb
   have := hlt _ _ hb'; omega
  ·cases hb'
   have := hlt _ _ hb; omega
  ·exact h.inj _ _ _ hb hb'
 ·intro k o hk'
  have := h.imm _ _ hk'
  omega
 ·exact h.ext.olds ho hos ht hout hs
 ·intro b h1 h2 hb
  simp only [St.new, lk] at hb
  split at hb
  ·omega
  ·rename_i hne
   unfold Own.set
   rw [if_neg (fun e => hne e.symm)]
   exact h.stay b h1 h2 hb
 ·intro b k hb
  unfold Own.set at hb
  split at hb
  ·cases hb; exact .inl h.ext.size
  ·exact h.src b k hb
theorem Rel.ghost (h : Rel G w0 M S0 σ a w β S) {d : Nat} (hd : lk σ.heap d = none) (hdK : d < 1000000) : Rel G w0 M S0 (σ.new d []) a w (β.gh d) S := by
 have hβd : β d = none := by
  cases hb : β d with
  | none => rfl
  | some k => exact absurd hd (h.keys d (by rw [hb]; simp))
 have hle : β.le (β.gh d) := fun b k hb => by
  unfold Own.gh
  rw [if_neg]
  ·exact hb
  ·rintro rfl; rw [hβd] at hb; cases hb
 have hk : ta S w w := fun _ _ _ => rfl
 have hsh : qo w w := fun k C Tc fr hk => ⟨C, hk, rfl⟩
 have hon : ∀ b k, (β.gh d) b = some (some k) → d ≠ b ∧ β b = some (some k) := by
  intro b k hb
  unfold Own.gh at hb
  split at hb
  ·cases hb
  ·rename_i e; exact ⟨fun e' => e e'.symm, hb⟩
 refine { h with env := ?_, keys := ?_, rd := ?_, live := ?_, froz := ?_, fd := ?_, nilb := ?_, inj := ?_, stay := ?_, src := fun b k hb => h.src b k (hon b k hb).2 }
 ·exact fun t x hx => AR.mono hle (fun _ _ h => h) hk hsh (h.env t x hx)
 ·intro b hb
  simp only [St.new, lk]
  split
  ·simp
  ·rename_i hne
   have : β b ≠ none := by
    have := hb; unfold Own.gh at this; rwa [if_neg (fun e => hne e.symm)] at this
   exact h.keys b this
 ·intro b k fr l' hb hl'
  obtain ⟨hne, hb⟩ := hon b k hb
  simp only [St.new, lk, if_neg hne] at hl'
  exact Rd.mono hle (fun _ _ h => h) hk hsh rfl (h.rd b k fr l' hb hl')
 ·intro b k l' hb hl'
  obtain ⟨hne, hb⟩ := hon b k hb
  simp only [St.new, lk, if_neg hne] at hl'
  exact h.live b k l' hb hl'
 ·intro b k l' hb hl'
  obtain ⟨hne, hb⟩ := hon b k hb
  simp only [St.new, lk, if_neg hne] at hl'
  exact h.froz b k l' hb hl'
 ·intro b l' hl'
  simp only [St.new, lk] at hl'
  split at hl'
  ·cases hl'
  ·exact h.fd b l' hl'
 ·intro b fr l' hb hl'
  simp only [St.new, lk] at hl'
  split at hl'
  ·cases hl'; rfl
  ·rename_i hne
   unfold Own.gh at hb
   rw [if_neg (fun e => hne e.symm)] at hb
   exact h.nilb b fr l' hb hl'
 ·intro b b' k hb hb'
  exact h.inj b b' k (hon b k hb).2 (hon b' k hb').2
 ·intro b h1 h2 hb
  simp only [St.new, lk] at hb
  split at hb
  ·omega
  ·rename_i hne
   unfold Own.gh
   rw [if_neg (fun e => hne e.symm)]
   exact h.stay b h1 h2 hb
theorem ajn {z : List A} {vz : List Value} (h : ARs β S w z vz) : ∀ n, ARs β S w (jb n z) (jb n vz)
 | 0 => by simp [jb, ARs]
 | n + 1 => by
  have ih := ajn h n
  have e1 : jb (n + 1) z = z ++ jb n z := by simp [jb, List.replicate_succ]
  have e2 : jb (n + 1) vz = vz ++ jb n vz := by simp [jb, List.replicate_succ]
  rw [e1, e2]
  have l1 := dj h
  have l2 := dj ih
  refine wz (by simp [l1, l2]) fun j x u hx hu => ?_
  rw [List.getElem?_append] at hx hu
  rw [l1] at hu
  split at hx
  ·rename_i hlt
   rw [if_pos hlt] at hu
   obtain ⟨u', hu', hR⟩ := l9 h hx
   rw [hu] at hu'; cases hu'; exact hR
  ·rename_i hlt
   rw [if_neg hlt] at hu
   obtain ⟨u', hu', hR⟩ := l9 ih hx
   rw [hu] at hu'; cases hu'; exact hR
theorem age {α : Type} (z : List α) : ∀ n : Nat, (jb n z).length = n * z.length
 | 0 => by simp [jb]
 | n + 1 => by
  have e1 : jb (n + 1) z = z ++ jb n z := by simp [jb, List.replicate_succ]
  rw [e1, List.length_append, age z n, Nat.succ_mul, Nat.add_comm]
theorem ai3 (z : Array Value) (hz : z.size ≠ 0) : ∀ n : Nat, ((Array.range (n * z.size)).map (fun i => z[i % z.size]!)).toList = jb n z.toList := by
 intro n
 refine List.ext_getElem? fun i => ?_
 have hlen : (jb n z.toList).length = n * z.size := by simp [age]
 by_cases hi : i < n * z.size
 ·have hm : i % z.size < z.size := Nat.mod_lt _ (by omega)
  have e1 : ((Array.range (n * z.size)).map (fun i => z[i % z.size]!)).toList[i]? = some (z[i % z.size]) := by
   simp [hi, hm]
  rw [e1]
  clear e1 hlen
  induction n generalizing i with
  | zero => simp at hi
  | succ n ih =>
   have e2 : jb (n + 1) z.toList = z.toList ++ jb n z.toList := by simp [jb, List.replicate_succ]
   rw [e2, List.getElem?_append]
   split
   ·rename_i h1
    simp at h1
    simp [Nat.mod_eq_of_lt h1, h1]
   ·rename_i h1
    simp at h1
    have h2 : i - z.size < n * z.size := by rw [Nat.succ_mul] at hi; omega
    have h3 := ih (i - z.size) h2 (Nat.mod_lt _ (by omega))
    simp only [Array.length_toList]
    rw [← h3]
    congr 1
    have : i % z.size = (i - z.size) % z.size := Nat.mod_eq_sub_mod h1
    simp only [this]
 ·rw [List.getElem?_eq_none (by simp; omega), List.getElem?_eq_none (by omega)]
theorem ajm {l : List A} {C : Array Value} (h : ARs β S w l C.toList) : l.length ≤ C.size ∧ ∀ (j : Nat) (x : A), l[j]? = some x → ∃ u, C[j]? = some u ∧ AR β S w x u :=
 ⟨by have := dj h; simp at this; omega, fun j x hx => by
  obtain ⟨u, hu, hR⟩ := l9 h hx
  exact ⟨u, by simpa using hu, hR⟩⟩
theorem wrap_i64 {n : Int} (h : 0 ≤ n) (h' : n < 9223372036854775808) : IntKind.i64.wrap n = n := by
 have e : IntKind.i64.wrap n = if (true && decide (n % 2 ^ 64 ≥ 2 ^ 63)) = true then n % 2 ^ 64 - 2 ^ 64 else n % 2 ^ 64 := rfl
 rw [e, if_neg (by simp; omega)]
 omega
theorem ahc {t e : Nat} {i : TypeInfo} {z : Value} {l : Int} {k k' : IntKind} {s : Nat} (hu : P.underlying t = some (.slice e)) (hi : (typeInfo e).run P w = .ok i w) (hs : (sizeOf e).run P w = .ok s w) (hz : (zeroValue e).run P w = .ok z w)
  (hb : i.bytes ≠ 0) (h0 : 0 ≤ l) (h1 : i.bytes * l ≤ 140737488355328) (hzs : z.cells.size = s) :
  (Instr.makeSlice t (.int k l) (.int k' l)).run P w = .ok (.slice (some ⟨w.heap.size, 0, none⟩) l.toNat l.toNat) (w.alloc (.cells ((Array.range (l.toNat * z.cells.size)).map (fun i => z.cells[i % z.cells.size]!)) e)) := by
 have hlt : l ≤ 140737488355328 := by
  have h2 : (1 : Int) * l ≤ i.bytes * l := Int.mul_le_mul_of_nonneg_right (by omega) h0
  omega
 have hw := wrap_i64 h0 (by omega)
 have hg : (decide (l < 0) || decide ((i.bytes : Int) * l > 2 ^ 48)) = false := by
  simp only [Bool.or_eq_false_iff, decide_eq_false_iff_not]; omega
 have hg2 : ¬ (((decide (l < 0) || decide ((i.bytes : Int) * l > 2 ^ 48)) = true ∨ l < 0) ∨ l > l) := by
  rw [hg]; simp; omega
 subst hzs
 simp only [Instr.makeSlice, Sem.run_bind, run_underlying hu, Result.andThen_ok, asInt, asIntOf, pure_bind, Sem.run_pure, hi, hw]
 rw [if_neg (by simpa using hg2)]
 simp only [Sem.run_bind, run_askRoom, hs, Result.andThen_ok]
 by_cases hn : l.toNat * z.cells.size = 0
 ·rw [if_pos hn, hn]
  have e0 : ∀ f : Nat → Value, (Array.range 0).map f = #[] := fun f => by simp
  simp [newRow, e0]
 ·rw [if_neg hn]
  simp [hz, newRow]
theorem aeg {t e : Nat} {z : Value} {s len : Nat} {parts : Array (Nat × Value)} {vc : Array Value} (hu : P.underlying t = some (.slice e)) (hs : (sizeOf e).run P w = .ok s w) (hz : (zeroValue e).run P w = .ok z w)
  (hl : len * s ≤ 4096) (hzs : z.cells.size = s) (hf : Instr.fill (fun i => some (i * s, s)) ((Array.range (len * z.cells.size)).map (fun i => z.cells[i % z.cells.size]!)) parts.toList = some vc) :
  (Instr.buildSlice t len parts).run P w = .ok (.slice (some ⟨w.heap.size, 0, none⟩) len len) (w.alloc (.cells vc e)) := by
 subst hzs
 simp only [Instr.buildSlice, Sem.run_bind, run_underlying hu, Result.andThen_ok, hs]
 rw [if_neg (by omega)]
 by_cases hn : len * z.cells.size = 0
 ·rw [hn] at hf
  have e0 : ((Array.range 0).map (fun i => z.cells[i % z.cells.size]!)) = #[] := by simp
  rw [e0] at hf
  rw [if_pos hn, hn]
  have e1 : ∀ f : Nat → Value, (Array.range 0).map f = #[] := fun f => by simp
  simp only [Sem.run_pure, Result.andThen_ok, Sem.run_bind, e1, hf]
  simp [newRow]
 ·rw [if_neg hn]
  simp [hz, newRow, hf]
theorem ayy {s : Sem Value} {v : Value} (h : s.run P w = .ok v w') : (do pure (.value (← s)) : Sem Next).run P w = .ok (.value v) w' := by
 simp [h]
theorem heap_alloc (w : World) (o : Obj) : (w.alloc o).heap[w.heap.size]? = some o := by
 show (w.heap.push o)[w.heap.size]? = some o
 simp
theorem aii {f : Nat → Option (Nat × Nat)} : ∀ (ps : List (Nat × Value)) (cs vc : Array Value), Instr.fill f cs ps = some vc → vc.size = cs.size
 | [], cs, vc, h' => by simp [Instr.fill] at h'; rw [h']
 | p :: ps, cs, vc, h' => by
  obtain ⟨i, v⟩ := p
  simp only [Instr.fill] at h'
  split at h'
  ·cases h'
  ·rename_i off size _
   split at h'
   ·cases h'
   ·rw [aii ps _ _ h']
    have e2 : ∀ (us : List (Value × Nat)) (cs : Array Value), (us.foldl (fun (cs : Array Value) x => cs.setIfInBounds (off + x.2) x.1) cs).size = cs.size := by
     intro us
     induction us with
     | nil => intro cs; rfl
     | cons u us ih => intro cs; simp [ih]
    rw [← Array.foldl_toList]
    exact e2 _ _
theorem am1 (hT : b6 P T) (h : Rel G w0 M S0 σ a w β S) {o : Oper} {d : Nat} (hd : lk σ.heap d = none) (hdK : d < 1000000) {K : A → List A → Prop} (hk : ug T (σ.ev G) d o.op K) :
  ∃ r l v w' β', K r l ∧ (execOp a.eval o).run P w = .ok (.value v) w' ∧ Rel G w0 M S0 (σ.new d l) a w' β' S ∧ AR β' S w' r v := by
 obtain ⟨dst, op, type, pos, after, guard⟩ := o
 simp only at hk
 unfold ug at hk
 split at hk
 ·-- alloc
  rename_i e
  split at hk
  ·rename_i y hy
   obtain ⟨hz0, hK⟩ := hk
   have hz : y.zero ≠ [] := by
    intro e; rw [e] at hz0; simp at hz0
   obtain ⟨z, hrz, hzc⟩ := um hT hy w hz
   have hAR : ARs β S w (nc y.zero) z.cells.toList := by rw [hzc]; exact uw _
   obtain ⟨hl, hc⟩ := ajm hAR
   obtain ⟨h1, h2, h3, h4⟩ := h.push (w' := w.alloc (.cells z.cells e)) hd hdK rfl rfl rfl rfl hl hc
   refine ⟨_, _, .pointer (some ⟨w.heap.size, 0, none⟩), _, _, hK, ?_, h1, ?_⟩
   ·simp [execOp, Instr.alloc, hrz, newVar, newRow]
   ·simp only [AR]; exact ⟨w.heap.size, by simp [Own.set], rfl⟩
  ·exact hk.elim
 ·-- box
  rename_i e x
  obtain ⟨hf, hK⟩ := hk
  have hAR := A.afp (h.ev x) hf
  obtain ⟨hl, hc⟩ := ajm hAR
  obtain ⟨h1, h2, h3, h4⟩ := h.push (w' := w.alloc (.cells (a.eval x).cells e)) hd hdK rfl rfl rfl rfl hl hc
  refine ⟨_, _, .pointer (some ⟨w.heap.size, 0, none⟩), _, _, hK, ?_, h1, ?_⟩
  ·simp [execOp, Instr.box, newVar, newRow]
  ·simp only [AR]; exact ⟨w.heap.size, by simp [Own.set], rfl⟩
 ·-- makeSlice
  rename_i t l c
  obtain ⟨e, ye, hu, hye, hk⟩ := c7 hT hk
  have hvl := h.ev l
  have hvc := h.ev c
  split at hk
  ·rename_i kl il kc ic e1 e2
   rw [e1] at hvl
   rw [e2] at hvc
   simp only [AR, DR] at hvl hvc
   obtain ⟨rfl, ⟨h0, hb⟩, hrow, _, rfl, hK⟩ := hk
   obtain ⟨_, hz, hzl, hb0⟩ := Ty.aam hrow
   obtain ⟨z, hrz, hzc⟩ := um hT hye w hz
   obtain ⟨i, hi, hib, his⟩ := sy hT hye w
   have hzs : z.cells.size = ye.size := by
    have := congrArg List.length hzc
    simpa [hzl] using this
   have hsz : ye.size ≠ 0 := by
    rw [← hzl]; intro h'; exact hz (List.length_eq_zero_iff.1 h')
   have hC := ai3 z.cells (by omega) il.toNat
   have hAR : ARs β S w (jb il.toNat (nc ye.zero)) ((Array.range (il.toNat * z.cells.size)).map (fun i => z.cells[i % z.cells.size]!)).toList := by
    rw [hC, hzc]; exact ajn (uw _) _
   obtain ⟨hl, hc⟩ := ajm hAR
   have hrun := ahc (P := P) (w := w) (k := kl) (k' := kc) hu hi (ca hT hye w) hrz (by omega) h0 (by rw [hib]; exact hb) hzs
   obtain ⟨h1, h2, h3, h4⟩ := h.push (w' := w.alloc (.cells ((Array.range (il.toNat * z.cells.size)).map (fun i => z.cells[i % z.cells.size]!)) e)) hd hdK rfl rfl rfl rfl hl hc
   refine ⟨_, _, .slice (some ⟨w.heap.size, 0, none⟩) il.toNat il.toNat, _, _, hK, ?_, h1, ?_⟩
   ·simp only [execOp, hvl, hvc]; exact ayy hrun
   ·simp only [AR]
    refine .inl ⟨w.heap.size, by simp [Own.set], il.toNat, ((Array.range (il.toNat * z.cells.size)).map (fun i => z.cells[i % z.cells.size]!)), e, (0, 0), rfl, Nat.le_refl _, heap_alloc _ _, ?_⟩
    simp [hzs]
  ·exact hk.elim
 ·-- buildSlice
  rename_i t len parts
  obtain ⟨e, ye, hu, hye, hrow, hk⟩ := c7 hT hk
  simp only [Bool.and_eq_true, decide_eq_true_eq] at hrow
  obtain ⟨hrow, hlen⟩ := hrow
  obtain ⟨_, hz, hzl, _⟩ := Ty.aam hrow
  obtain ⟨z, hrz, hzc⟩ := um hT hye w hz
  have hzs : z.cells.size = ye.size := by
   have := congrArg List.length hzc
   simpa [hzl] using this
  have hsz : ye.size ≠ 0 := by
   rw [← hzl]; intro h'; exact hz (List.length_eq_zero_iff.1 h')
  have hC := ai3 z.cells (by omega) len
  have hAR : ARs β S w (jb len (nc ye.zero)) ((Array.range (len * z.cells.size)).map (fun i => z.cells[i % z.cells.size]!)).toList := by
   rw [hC, hzc]; exact ajn (uw _) _
  have hp : ql β S w (parts.toList.map fun p => (p.1, σ.ev G p.2)) (parts.map fun p => (p.1, a.eval p.2)).toList := by
   simpa using ql.map (fun x => h.ev x) parts.toList
  obtain ⟨c, vc, hK, hR, hfill⟩ := r7 hk hp hAR
  have hrun := aeg (P := P) (w := w) (parts := parts.map fun p => (p.1, a.eval p.2)) hu (ca hT hye w) hrz hlen hzs hfill
  obtain ⟨hl, hc⟩ := ajm hR
  obtain ⟨h1, h2, h3, h4⟩ := h.push (w' := w.alloc (.cells vc e)) hd hdK rfl rfl rfl rfl hl hc
  have hsize : vc.size = len * ye.size := by
   rw [aii _ _ _ hfill]
   simp [hzs]
  refine ⟨_, _, .slice (some ⟨w.heap.size, 0, none⟩) len len, _, _, hK, ?_, h1, ?_⟩
  ·simp only [execOp]; exact ayy hrun
  ·simp only [AR]
   exact .inl ⟨w.heap.size, by simp [Own.set], len, vc, e, (0, 0), rfl, Nat.le_refl _, heap_alloc _ _, by omega⟩
 ·-- x[:0:0]
  rename_i t x lo hi m
  split at hk
  ·rename_i n cells e1
   have hx := h.ev x
   rw [e1] at hx
   obtain ⟨e, ye, hu, hye, hk⟩ := c7 hT hk
   split at hk
   ·rename_i hi _
    obtain ⟨kh, km, e2, e3, hK⟩ := hk
    have hvh := h.ev hi
    have hvm := h.ev m
    rw [e2] at hvh
    rw [e3] at hvm
    simp only [AR, DR] at hx hvh hvm
    obtain ⟨b, c, hx, hc, hl⟩ := hx
    refine ⟨_, _, .slice b 0 0, w, _, hK, ?_, h.ghost hd hdK, ?_⟩
    ·simp only [execOp]
     refine wm ?_
     simp [Instr.sliceAt, Instr.slice, run_underlying hu, hx, hvh, hvm, Instr.sliceBounds, run_sliceBound, ca hT hye]
    ·simp only [AR]; exact .inr ⟨trivial, by simp [Own.gh], b, rfl⟩
   ·exact hk.elim
  ·exact hk.elim
 ·exact hk.elim
end
end Go.Ev

namespace Go.Ev
open Go
section
variable {P : Program} {G : bb} {T : Tab} {w0 : World} {M : Own} {S0 : Imm} {σ : St} {a : Act} {w w' : World} {β : Own} {S : Imm}
theorem ei : ∀ (h : List (Nat × Bool × List A)) (b : Nat) (l : List A) (t : Nat), lk (apa h b l) t = if t = b then (lk h t).map (fun x => (x.1, l)) else lk h t
 | [], b, l, t => by simp [apa, lk]
 | (k, f, l0) :: h, b, l, t => by
  simp only [apa]
  by_cases hk : k = b
  ·subst hk
   rw [if_pos rfl]
   simp only [lk]
   by_cases ht : k = t
   ·subst ht; simp
   ·rw [if_neg ht, if_neg ht, if_neg (fun e => ht e.symm)]
  ·rw [if_neg hk]
   simp only [lk]
   by_cases ht : k = t
   ·subst ht; simp [hk]
   ·rw [if_neg ht, if_neg ht]; exact ei h b l t
theorem Rel.write (h : Rel G w0 M S0 σ a w β S) {b k : Nat} {l l' : List A} {C C' : Array Value} {Tc : TypeId} (hb : β b = some (some k)) (hl : lk σ.heap b = some (false, l)) (hC : w.heap[k]? = some (.cells C Tc (0, 0))) (hC' : w'.heap[k]? = some (.cells C' Tc (0, 0)))
  (hsz : C'.size = C.size) (hoth : ∀ j, j ≠ k → w'.heap[j]? = w.heap[j]?) (hws : w'.heap.size = w.heap.size) (hos : w'.os = w.os) (ht : w'.tape = w.tape) (hout : w'.output = w.output)
  (hl' : l'.length ≤ C'.size) (hc : ∀ (j : Nat) (x : A), l'[j]? = some x → ∃ u, C'[j]? = some u ∧ AR β S w x u) :
  Rel G w0 M S0 (σ.wr b l') a w' β S ∧ ta S w w' ∧ qo w w' := by
 obtain ⟨hlive, hbase⟩ := h.live b k l hb hl
 have hk : ta S w w' := fun j o hS => j0 (hoth j (fun e => hlive o (e ▸ hS)))
 have hsh : qo w w' := fun j Cj Tj fr hj => by
  by_cases e : j = k
  ·subst e
   rw [hC] at hj; cases hj
   exact ⟨C', hC', hsz⟩
  ·exact ⟨Cj, by rw [hoth j e]; exact hj, rfl⟩
 have hlek : β.le β := fun _ _ h => h
 have hleS : S.le S := fun _ _ h => h
 refine ⟨?_, hk, hsh⟩
 refine { h with env := ?_, glob := ?_, keys := ?_, rd := ?_, live := ?_, froz := ?_, fd := ?_, nilb := ?_, imm := ?_, ext := ?_, stay := ?_ }
 ·exact fun t x hx => AR.mono hlek hleS hk hsh (h.env t x hx)
 ·exact fun g => DRL.mono hleS hk (h.glob g)
 ·intro b' hb'
  have := h.keys b' hb'
  simp only [St.wr, ei]
  split
  ·cases hh : lk σ.heap b' with
   | none => exact absurd hh this
   | some x => simp
  ·exact this
 ·intro b' k' fr l1 hb' hl1
  simp only [St.wr, ei] at hl1
  split at hl1
  ·rename_i e
   subst e
   rw [hb] at hb'; cases hb'
   rw [hl] at hl1; cases hl1
   refine ⟨C', Tc, hC', hl', fun j x hx => ?_⟩
   obtain ⟨u, hu, hR⟩ := hc j x hx
   exact ⟨u, hu, AR.mono hlek hleS hk hsh hR⟩
  ·rename_i e
   have hne : k' ≠ k := fun e' => e (h.inj b' b k' hb' (e' ▸ hb))
   exact Rd.mono hlek hleS hk hsh (hoth k' hne) (h.rd b' k' fr l1 hb' hl1)
 ·intro b' k' l1 hb' hl1
  simp only [St.wr, ei] at hl1
  split at hl1
  ·rename_i e
   subst e
   rw [hb] at hb'; cases hb'
   exact ⟨hlive, hbase⟩
  ·exact h.live b' k' l1 hb' hl1
 ·intro b' k' l1 hb' hl1
  simp only [St.wr, ei] at hl1
  split at hl1
  ·rename_i e
   subst e
   rw [hl] at hl1; cases hl1
  ·obtain ⟨ds, h1, h2⟩ := h.froz b' k' l1 hb' hl1
   exact ⟨ds, h1, DRL.mono hleS hk h2⟩
 ·intro b' l1 hl1
  simp only [St.wr, ei] at hl1
  split at hl1
  ·rename_i e
   subst e
   rw [hl] at hl1; cases hl1
  ·exact h.fd b' l1 hl1
 ·intro b' fr l1 hb' hl1
  simp only [St.wr, ei] at hl1
  split at hl1
  ·rename_i e
   subst e
   rw [hb] at hb'; cases hb'
  ·exact h.nilb b' fr l1 hb' hl1
 ·intro k' o hS
  rw [hws]; exact h.imm k' o hS
 ·refine ⟨hos.trans h.ext.os, ht.trans h.ext.tape, hout.trans h.ext.output, by rw [hws]; exact h.ext.size, fun j hj hM => ?_, fun j Cj Tj fr hj => ?_⟩
  ·have hne : j ≠ k := by
    rintro rfl
    rcases hbase with h1 | h1
    ·omega
    ·exact hM h1
   rw [hoth j hne]; exact h.ext.block j hj hM
  ·obtain ⟨C1, h1, h2⟩ := h.ext.s7 j Cj Tj fr hj
   obtain ⟨C2, h3, h4⟩ := hsh j C1 Tj fr h1
   exact ⟨C2, h3, by omega⟩
 ·intro b' h1 h2 hb'
  refine h.stay b' h1 h2 fun e => hb' ?_
  simp only [St.wr, ei]
  split
  ·rw [e]; rfl
  ·exact e
theorem ow {k : Nat} {Tc : TypeId} : ∀ (vs : List Value) (C : Array Value) (o i : Nat) (w : World), (∀ v ∈ vs, v.oneCell' = true) → w.heap[k]? = some (.cells C Tc (0, 0)) → o + i + vs.length ≤ C.size →
  ∃ w' C', (storeCells ⟨k, o, none⟩ vs i).run P w = .ok () w' ∧ w'.heap[k]? = some (.cells C' Tc (0, 0)) ∧ C'.toList = setAt C.toList (o + i) vs ∧ (∀ j, j ≠ k → w'.heap[j]? = w.heap[j]?) ∧ w'.heap.size = w.heap.size ∧ w'.os = w.os ∧ w'.tape = w.tape ∧ w'.output = w.output
 | [], C, o, i, w, _, hC, _ => ⟨w, C, by simp [storeCells], hC, by simp [setAt], fun _ _ => rfl, rfl, rfl, rfl, rfl⟩
 | v :: vs, C, o, i, w, hv, hC, hl => by
  simp only [List.length_cons] at hl
  have hcell : ∃ u, w.cell? ⟨k, o + i, none⟩ = some u := by
   rw [jc hC]
   exact ⟨C[o + i]'(by omega), by simp [show o + i < C.size by omega]⟩
  obtain ⟨u, hu⟩ := hcell
  have hfz : w.frozen? ⟨k, o + i, none⟩ = false := by simp [World.frozen?, hC]
  have hC1 : (w.setCell ⟨k, o + i, none⟩ v).heap[k]? = some (.cells (C.setIfInBounds (o + i) v) Tc (0, 0)) := by
   simp [World.setCell, Array.getElem?_modify, hC]
  obtain ⟨w', C', h1, h2, h3, h4, h5, h6, h7, h8⟩ := ow vs (C.setIfInBounds (o + i) v) o (i + 1) (w.setCell ⟨k, o + i, none⟩ v) (fun x hx => hv x (by simp [hx])) hC1 (by simp; omega)
  refine ⟨w', C', ?_, h2, ?_, fun j hj => ?_, ?_, h6, h7, h8⟩
  ·simp only [storeCells, Sem.run_bind, dx]
   rw [run_store P w _ v .plain (hv v (by simp))]
   simp only [hu, hfz, Result.andThen_ok]
   exact h1
  ·rw [h3]
   simp [setAt, Nat.add_assoc]
  ·rw [h4 j hj]
   simp only [World.setCell, Array.getElem?_modify]
   rw [if_neg (fun e => hj e.symm)]
  ·rw [h5]; simp
theorem A.asc {x : A} {v : Value} (h : AR β S w x v) (hx : x.one = true) : v.oneCell' = true := by
 cases x with
 | d y =>
  cases y with
  | any => simp [A.one] at hx
  | agg _ => simp [A.one] at hx
  | tup _ => simp [A.one] at hx
  | fnd _ _ => simp [A.one] at hx
  | ptrd c => simp only [AR, DR] at h; obtain ⟨k, o, rfl, _⟩ := h; rfl
  | raw u => simp only [AR, DR] at h; subst h; simpa [A.one] using hx
  | slice n l => simp only [AR, DR] at h; obtain ⟨a, c, rfl, _⟩ := h; rfl
  | _ => simp only [AR, DR] at h; subst h; rfl
 | ptr b o => simp only [AR] at h; obtain ⟨k, _, rfl⟩ := h; rfl
 | elem c => simp only [AR] at h; obtain ⟨k, o, rfl, _⟩ := h; rfl
 | own b o n sz => simp only [AR] at h; rcases h with ⟨k, _, c, C, T, fr, rfl, _⟩ | ⟨_, _, a, rfl⟩ <;> rfl
 | agg l => simp [A.one] at hx
 | fn f l => simp [A.one] at hx
theorem an5 (hT : b6 P T) (h : Rel G w0 M S0 σ a w β S) {t : Nat} {ad x : Operand} {K : A → St → Prop} (hk : uv T G σ none (.store t ad x) K) :
  ∃ r σ' w', K r σ' ∧ (Instr.storeAt t (a.eval ad) (a.eval x)).run P w = .ok () w' ∧ Rel G w0 M S0 σ' a w' β S ∧ r = .d .any ∧ σ'.n = σ.n := by
 simp only [uv] at hk
 have had := h.ev ad
 have hx := h.ev x
 split at hk
 ·rename_i b o e1
  rw [e1] at had
  simp only [AR] at had
  obtain ⟨k, hb, hv⟩ := had
  split at hk
  ·rename_i l y hl hy
   obtain ⟨hf, hlen, hone0, ho, _, rfl, hK⟩ := hk
   have hone := List.all_eq_true.1 hone0
   obtain ⟨C, Tc, hC, hlC, hcell⟩ := h.rd b k _ _ hb hl
   have hAR := A.afp hx hf
   have e2 := dj hAR
   obtain ⟨w', C', h1, h2, h3, h4, h5, h6, h7, h8⟩ := ow (P := P) (k := k) (Tc := Tc) (a.eval x).cells.toList C o 0 w (fun v hv => by
    obtain ⟨j, hj⟩ := List.getElem?_of_mem hv
    have : j < (σ.ev G x).cells.length := by
     have := (List.getElem?_eq_some_iff.1 hj).1; omega
    obtain ⟨u, hu, hR⟩ := l9 hAR (j := j) (x := (σ.ev G x).cells[j]) (by simp [this])
    rw [hj] at hu; cases hu
    exact A.asc hR (hone _ (List.getElem_mem _))) hC (by omega)
   have hsz : C'.size = C.size := by
    have := congrArg List.length h3
    simpa [ml] using this
   obtain ⟨h9, _, _⟩ := h.write (l' := setAt l o (σ.ev G x).cells) hb hl hC h2 hsz h4 h5 h6 h7 h8 (by simp [ml]; omega) (fun j z hj => by
    rw [getElem?_setAt _ _ _ _ (by omega)] at hj
    have hC'j : C'[j]? = (setAt C.toList o (a.eval x).cells.toList)[j]? := by
     have : C'[j]? = C'.toList[j]? := by simp
     rw [this, h3]; rfl
    rw [hC'j, getElem?_setAt _ _ _ _ (by simp at e2 ⊢; omega)]
    split at hj
    ·rename_i hc
     rw [if_pos (by omega)]
     exact l9 hAR hj
    ·rename_i hc
     rw [if_neg (by omega)]
     obtain ⟨u, hu, hR⟩ := hcell j z hj
     exact ⟨u, by simpa using hu, hR⟩)
   refine ⟨_, _, w', hK, ?_, h9, rfl, rfl⟩
   rw [hv]
   simp only [Instr.storeAt, Instr.sureAddr, pure_bind, storeVar, Sem.run_bind, ca hT hy, Result.andThen_ok]
   rw [if_neg (by simp at e2 ⊢; omega)]
   exact h1
  ·exact hk.elim
 ·exact hk.elim
mutual
theorem aeh {β' : Own} {b : Nat} (hβ : ∀ c, c ≠ b → β' c = β c) : ∀ {x : A} {v : Value}, AR β S w x v → AR β' S w (x.kill b) v
 | .d x, v, h => by simp only [A.kill, AR] at h ⊢; exact h
 | .elem x, v, h => by simp only [A.kill, AR] at h ⊢; exact h
 | .ptr c o, v, h => by
  simp only [A.kill]
  split
  ·simp only [AR, DR]
  ·rename_i e
   simp only [AR, hβ c e] at h ⊢; exact h
 | .own c o n sz, v, h => by
  simp only [A.kill]
  split
  ·simp only [AR, DR]
  ·rename_i e
   simp only [AR, hβ c e] at h ⊢; exact h
 | .agg l, v, h => by
  simp only [A.kill, AR] at h ⊢
  obtain ⟨vs, rfl, h⟩ := h
  exact ⟨vs, rfl, ae9 hβ h⟩
 | .fn f l, v, h => by
  simp only [A.kill, AR] at h ⊢
  obtain ⟨vs, rfl, h⟩ := h
  exact ⟨vs, rfl, ae9 hβ h⟩
theorem ae9 {β' : Own} {b : Nat} (hβ : ∀ c, c ≠ b → β' c = β c) : ∀ {l : List A} {vs : List Value}, ARs β S w l vs → ARs β' S w (A.gl b l) vs
 | [], vs, h => by simpa [A.gl, ARs] using h
 | x :: l, vs, h => by
  simp only [A.gl, ARs] at h ⊢
  obtain ⟨u, us, rfl, h1, h2⟩ := h
  exact ⟨u, us, rfl, aeh hβ h1, ae9 hβ h2⟩
end
theorem aim {b : Nat} : ∀ {l : List A} {j : Nat} {x : A}, (A.gl b l)[j]? = some x → ∃ y, l[j]? = some y ∧ x = y.kill b
 | [], j, x, h => by simp [A.gl] at h
 | y :: l, 0, x, h => by simp [A.gl] at h; exact ⟨y, rfl, h.symm⟩
 | y :: l, j + 1, x, h => by
  simp only [A.gl, List.getElem?_cons_succ] at h
  obtain ⟨z, h1, h2⟩ := aim h
  exact ⟨z, by simpa using h1, h2⟩
theorem abm {b : Nat} : ∀ l : List A, (A.gl b l).length = l.length
 | [] => rfl
 | x :: l => by simp [A.gl, abm l]
theorem aet (b : Nat) : ∀ (l : List (Nat × A)) (t : Nat), lk (l.map fun x => (x.1, x.2.kill b)) t = (lk l t).map (A.kill b)
 | [], t => rfl
 | (k, x) :: l, t => by
  simp only [List.map_cons, lk]
  split
  ·rfl
  ·exact aet b l t
theorem dh (b : Nat) : ∀ (l : List (Nat × Bool × List A)) (t : Nat), lk (l.map fun x => (x.1, x.2.1, A.gl b x.2.2)) t = (lk l t).map fun x => (x.1, A.gl b x.2)
 | [], t => rfl
 | (k, x) :: l, t => by
  simp only [List.map_cons, lk]
  split
  ·rfl
  ·exact dh b l t
theorem mm {b : Nat} {l : List A} {ds : List D} (h : l = ds.map A.d) : A.gl b l = ds.map A.d := by subst h; simp
theorem Rd.kill {β' : Own} {b k : Nat} {l : List A} (hβ : ∀ c, c ≠ b → β' c = β c) (h : Rd β S w k l) : Rd β' S w k (A.gl b l) := by
 obtain ⟨C, Tc, hC, hl, hc⟩ := h
 refine ⟨C, Tc, hC, by rw [abm]; exact hl, fun j x hx => ?_⟩
 obtain ⟨y, hy, rfl⟩ := aim hx
 obtain ⟨u, hu, hR⟩ := hc j y hy
 exact ⟨u, hu, aeh hβ hR⟩
theorem Rel.kill (h : Rel G w0 M S0 σ a w β S) (b : Nat) : Rel G w0 M S0 (σ.kill b) a w β S := by
 refine { h with env := ?_, keys := ?_, rd := ?_, live := ?_, froz := ?_, fd := ?_, nilb := ?_, stay := ?_ }
 ·intro t x hx
  simp only [St.kill, aet, Option.map_eq_some_iff] at hx
  obtain ⟨y, hy, rfl⟩ := hx
  exact aeh (fun _ _ => rfl) (h.env t y hy)
 ·intro c hc
  have := h.keys c hc
  simp only [St.kill, dh]
  cases hh : lk σ.heap c with
  | none => exact absurd hh this
  | some x => simp
 ·intro c k fr l hc hl
  simp only [St.kill, dh, Option.map_eq_some_iff] at hl
  obtain ⟨y, hy, e⟩ := hl
  obtain ⟨fr', l'⟩ := y
  cases e
  exact Rd.kill (fun _ _ => rfl) (h.rd c k _ _ hc hy)
 ·intro c k l hc hl
  simp only [St.kill, dh, Option.map_eq_some_iff] at hl
  obtain ⟨y, hy, e⟩ := hl
  obtain ⟨fr', l'⟩ := y
  cases e
  exact h.live c k _ hc hy
 ·intro c k l hc hl
  simp only [St.kill, dh, Option.map_eq_some_iff] at hl
  obtain ⟨y, hy, e⟩ := hl
  obtain ⟨fr', l'⟩ := y
  cases e
  obtain ⟨ds, h1, h2⟩ := h.froz c k _ hc hy
  exact ⟨ds, mm h1, h2⟩
 ·intro c l hl
  simp only [St.kill, dh, Option.map_eq_some_iff] at hl
  obtain ⟨y, hy, e⟩ := hl
  obtain ⟨fr', l'⟩ := y
  cases e
  obtain ⟨ds, h1⟩ := h.fd c _ hy
  exact ⟨ds, mm h1⟩
 ·intro c fr l hc hl
  simp only [St.kill, dh, Option.map_eq_some_iff] at hl
  obtain ⟨y, hy, e⟩ := hl
  obtain ⟨fr', l'⟩ := y
  cases e
  have := h.nilb c _ _ hc hy
  simp only at this ⊢
  rw [this]; rfl
 ·intro c h1 h2 hc
  refine h.stay c h1 h2 fun e => hc ?_
  simp only [St.kill, dh, e]; rfl
theorem Rel.move (h : Rel G w0 M S0 σ a w β S) {b : Nat} {fr0 : Bool} {l l' : List A} (hb : lk σ.heap b = some (fr0, l)) (hfr : fr0 = false) (hbK : b < 1000000 ∨ 2000000 ≤ b) {C : Array Value} {Tc : TypeId} (hw : w'.heap = w.heap.push (.cells C Tc)) (hos : w'.os = w.os) (ht : w'.tape = w.tape) (hout : w'.output = w.output)
  (hl : l'.length ≤ C.size) (hc : ∀ (j : Nat) (x : A), l'[j]? = some x → ∃ u, C[j]? = some u ∧ AR (β.set b w.heap.size) S w' x u) : Rel G w0 M S0 ((σ.kill b).wr b l') a w' (β.set b w.heap.size) S := by
 have ho : zz w w' := fun k hk => by rw [hw, Array.getElem?_push, if_neg (by omega)]
 have hs : w.heap.size ≤ w'.heap.size := by rw [hw]; simp
 have hk := ho.keeps h.imm
 have hsh := ho.s7
 have hβ : ∀ c, c ≠ b → (β.set b w.heap.size) c = β c := fun c hc => by unfold Own.set; rw [if_neg hc]
 have hlt : ∀ b k, β b = some (some k) → k < w.heap.size := by
  intro b k hb
  have := h.keys b (by rw [hb]; simp)
  cases hl : lk σ.heap b with
  | none => exact absurd hl this
  | some x =>
   obtain ⟨fr, l⟩ := x
   obtain ⟨C, Tc, hC, _⟩ := h.rd b k fr l hb hl
   exact fp hC
 have hnew : w'.heap[w.heap.size]? = some (.cells C Tc (0, 0)) := by rw [hw]; simp
 have hle : β.le β := fun _ _ h => h
 have hleS : S.le S := fun _ _ h => h
 have hlook : ∀ c fr l1, lk ((σ.kill b).wr b l').heap c = some (fr, l1) → (c = b ∧ fr = false ∧ l1 = l') ∨ (c ≠ b ∧ ∃ l2, lk σ.heap c = some (fr, l2) ∧ l1 = A.gl b l2) := by
  intro c fr l1 hl1
  simp only [St.wr, St.kill, ei, dh] at hl1
  split at hl1
  ·rename_i e
   subst e
   rw [hb] at hl1
   simp only [Option.map_some, Option.some.injEq, Prod.mk.injEq] at hl1
   exact .inl ⟨rfl, by rw [← hl1.1, hfr], hl1.2.symm⟩
  ·rename_i e
   simp only [Option.map_eq_some_iff] at hl1
   obtain ⟨y, hy, e'⟩ := hl1
   obtain ⟨fr', l2⟩ := y
   cases e'
   exact .inr ⟨e, l2, hy, rfl⟩
 refine { h with env := ?_, glob := ?_, keys := ?_, rd := ?_, live := ?_, froz := ?_, fd := ?_, nilb := ?_, inj := ?_, imm := ?_, ext := ?_, stay := ?_, src := ?_ }
 ·intro t x hx
  simp only [St.wr, St.kill, aet, Option.map_eq_some_iff] at hx
  obtain ⟨y, hy, rfl⟩ := hx
  exact aeh hβ (AR.mono hle hleS hk hsh (h.env t y hy))
 ·exact fun g => DRL.mono hleS hk (h.glob g)
 ·intro c hck
  simp only [St.wr, St.kill, ei, dh]
  split
  ·rename_i e
   subst e
   rw [hb]; simp
  ·rename_i e
   rw [hβ c e] at hck
   have := h.keys c hck
   cases hh : lk σ.heap c with
   | none => exact absurd hh this
   | some x => simp
 ·intro c k fr l1 hck hl1
  rcases hlook c fr l1 hl1 with ⟨rfl, rfl, rfl⟩ | ⟨e, l2, h1, rfl⟩
  ·simp only [Own.set, if_true, Option.some.injEq] at hck
   subst hck
   exact ⟨C, Tc, hnew, hl, hc⟩
  ·rw [hβ c e] at hck
   exact Rd.kill hβ (Rd.mono hle hleS hk hsh (ho k (hlt c k hck)) (h.rd c k fr l2 hck h1))
 ·intro c k l1 hck hl1
  rcases hlook c _ l1 hl1 with ⟨rfl, _, rfl⟩ | ⟨e, l2, h1, rfl⟩
  ·simp only [Own.set, if_true, Option.some.injEq] at hck
   subst hck
   exact ⟨fun o hS => by have := h.imm _ _ hS; omega, .inl h.ext.size⟩
  ·rw [hβ c e] at hck
   exact h.live c k l2 hck h1
 ·intro c k l1 hck hl1
  rcases hlook c _ l1 hl1 with ⟨rfl, h0, rfl⟩ | ⟨e, l2, h1, rfl⟩
  ·cases h0
  ·rw [hβ c e] at hck
   obtain ⟨ds, h2, h3⟩ := h.froz c k l2 hck h1
   exact ⟨ds, mm h2, DRL.mono hleS hk h3⟩
 ·intro c l1 hl1
  rcases hlook c _ l1 hl1 with ⟨rfl, h0, rfl⟩ | ⟨e, l2, h1, rfl⟩
  ·cases h0
  ·obtain ⟨ds, h2⟩ := h.fd c l2 h1
   exact ⟨ds, mm h2⟩
 ·intro c fr l1 hck hl1
  rcases hlook c _ l1 hl1 with ⟨rfl, h0, rfl⟩ | ⟨e, l2, h1, rfl⟩
  ·simp [Own.set] at hck
  ·rw [hβ c e] at hck
   rw [h.nilb c fr l2 hck h1]; rfl
 ·intro c c' k hb1 hb2
  unfold Own.set at hb1 hb2
  split at hb1 <;> split at hb2
  ·simp_all
  ·cases hb1
   have := hlt _ _ hb2; omega
  ·cases hb2
   have := hlt _ _ hb1; omega
  ·exact h.inj _ _ _ hb1 hb2
 ·intro k o hS
  have := h.imm _ _ hS; omega
 ·exact h.ext.olds ho hos ht hout hs
 ·intro c h1 h2 hc
  have hcb : c ≠ b := by omega
  rw [hβ c hcb]
  refine h.stay c h1 h2 fun e => hc ?_
  simp only [St.wr, St.kill, ei, dh, if_neg hcb, e]; rfl
 ·intro c k hck
  unfold Own.set at hck
  split at hck
  ·cases hck; exact .inl h.ext.size
  ·exact h.src c k hck
end
end Go.Ev
