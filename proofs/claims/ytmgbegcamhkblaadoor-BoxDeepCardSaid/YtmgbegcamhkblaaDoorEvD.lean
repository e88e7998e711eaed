/- What an operation that turns no memory gives is what the model's gives. -/
import Derived.Test.YtmgbegcamhkblaaDoorEvC
set_option linter.unusedSimpArgs false
set_option linter.unusedVariables false
namespace Go.Ev
open Go

/-- A block of the call's own reads so. -/
def Rd (β : Own) (S : Imm) (w : World) (k : Nat) (l : List A) : Prop :=
  ∃ (C : Array Value) (T : TypeId), w.heap[k]? = some (.cells C T (0, 0)) ∧ l.length ≤ C.size ∧ ∀ (j : Nat) (x : A), l[j]? = some x → ∃ u, C[j]? = some u ∧ AR β S w x u
def HeapRd (β : Own) (S : Imm) (w : World) (hp : Nat → Option (Bool × List A)) : Prop :=
  ∀ b k fr l, β b = some (some k) → hp b = some (fr, l) → Rd β S w k l

/-- The model's step gives a value that K speaks of, and leaves memory as it is. -/
def Gives (P : Program) (β : Own) (S : Imm) (w : World) (s : Sem Value) (K : A → Prop) : Prop :=
  ∃ r v, K r ∧ AR β S w r v ∧ s.run P w = .ok v w

section
variable {β : Own} {S : Imm} {w : World}
theorem AR.bool (b : Bool) : AR β S w (.d (.bool b)) (.bool b) := by simp only [AR, DR]
theorem AR.int (k : IntKind) (n : Int) : AR β S w (.d (.int k n)) (.int k n) := by simp only [AR, DR]
theorem AR.str (s : ByteArray) : AR β S w (.d (.str s)) (.string s) := by simp only [AR, DR]
end

section
variable {P : Program} {w : World} {t : TypeId}
theorem run_equal_bool (hu : P.underlying t = some .bool) (p q : Bool) : (Op.equal t (.bool p) (.bool q)).run P w = .ok (p == q) w := by
  have h : ∀ d, (Op.equalIn (d + 1) t (.bool p) (.bool q)).run P w = .ok (p == q) w := fun d => by
    simp [Op.equalIn, run_underlying hu]
  exact h 9999
theorem run_equal_nil {e : Nat} (hu : P.underlying t = some (.slice e)) (a : Option Addr) (n c : Nat) : (Op.equal t (.slice a n c) (.slice none 0 0)).run P w = .ok a.isNone w := by
  have h : ∀ d, (Op.equalIn (d + 1) t (.slice a n c) (.slice none 0 0)).run P w = .ok a.isNone w := fun d => by
    cases a <;> simp [Op.equalIn, run_underlying hu]
  exact h 9999
theorem binOp_eql_bool (p q : Bool) : binOp .eql t (.bool p) (.bool q) = (do pure (.bool (← Op.equal t (.bool p) (.bool q)))) := rfl
theorem binOp_neq_bool (p q : Bool) : binOp .neq t (.bool p) (.bool q) = (do pure (.bool (!(← Op.equal t (.bool p) (.bool q))))) := rfl
theorem binOp_eql_slice (a : Option Addr) (n c : Nat) : binOp .eql t (.slice a n c) (.slice none 0 0) = (do pure (.bool (← Op.equal t (.slice a n c) (.slice none 0 0)))) := rfl
theorem binOp_neq_slice (a : Option Addr) (n c : Nat) : binOp .neq t (.slice a n c) (.slice none 0 0) = (do pure (.bool (!(← Op.equal t (.slice a n c) (.slice none 0 0))))) := rfl
end

section
variable {P : Program} {T : Tab} {β : Own} {S : Imm} {w : World} {K : A → Prop}

theorem binEv_sound (hT : TabOk P T) {op : BinOp} {xT : Nat} {a b : A} {x y : Operand} {u v : Value} (h : binEv T op xT a b K) (hx : AR β S w a u) (hy : AR β S w b v) :
    Gives P β S w (do eqGuard op xT x y u v; binOp op xT u v) K := by
  unfold binEv at h
  split at h
  · rename_i k p k' q
    simp only [AR, DR] at hx hy
    subst hx hy
    have hg : ∀ op, (eqGuard op xT x y (.int k p) (.int k' q)).run P w = .ok () w := by
      intro op; unfold eqGuard; cases op <;> simp
    split at h
    · obtain ⟨h1, _, rfl, h⟩ := h
      exact ⟨_, _, h, AR.int _ _, by simp [hg, binOp, Op.shift, show ¬ q < 0 by omega]⟩
    · obtain ⟨h1, _, rfl, h⟩ := h
      exact ⟨_, _, h, AR.int _ _, by simp [hg, binOp, Op.shift, show ¬ q < 0 by omega]⟩
    · obtain ⟨rfl, h⟩ := h
      unfold intBin at h
      split at h
      all_goals first
        | (obtain ⟨_, rfl, h⟩ := h; exact ⟨_, _, h, AR.int _ _, by simp [hg, binOp, Op.intArith, Op.intBits]⟩)
        | exact ⟨_, _, h, AR.bool _, by simp [hg, binOp, Op.intCmp] <;> rfl⟩
        | (obtain ⟨h1, _, rfl, h⟩ := h; exact ⟨_, _, h, AR.int _ _, by simp [hg, binOp, Op.intDiv, h1]⟩)
        | exact h.elim
  · rename_i p q
    simp only [AR, DR] at hx hy
    subst hx hy
    obtain ⟨ht, h⟩ := h
    simp only [Option.any_eq_true, decide_eq_true_eq] at ht
    obtain ⟨yt, hyt, hk⟩ := ht
    have hu := under_bool hT hyt hk
    have hg : ∀ op, (eqGuard op xT x y (.bool p) (.bool q)).run P w = .ok () w := by
      intro op; unfold eqGuard; cases op <;> simp
    split at h
    · exact ⟨_, _, h, AR.bool _, by simp [hg, binOp_eql_bool, run_equal_bool hu]⟩
    · exact ⟨_, _, h, AR.bool _, by simp [hg, binOp_neq_bool, run_equal_bool hu]⟩
    · exact h.elim
  · rename_i p q
    simp only [AR, DR] at hx hy
    subst hx hy
    have hg : ∀ op, (eqGuard op xT x y (.string p) (.string q)).run P w = .ok () w := by
      intro op; unfold eqGuard; cases op <;> simp
    split at h
    · obtain ⟨hsz, h⟩ := h
      refine ⟨_, _, h, AR.str _, ?_⟩
      have : ¬ ((p.size + q.size : Nat) : Int) > IntKind.i64.max := by
        have : IntKind.i64.max = 9223372036854775807 := by decide
        rw [this]; omega
      simp only [Sem.run_bind, hg, Result.andThen_ok, binOp, Op.stringOp, if_neg this]
      rfl
    all_goals first
      | exact ⟨_, _, h, AR.bool _, by simp [hg, binOp, Op.stringOp]⟩
      | exact h.elim
  · rename_i n cells
    obtain ⟨ht, h⟩ := h
    simp only [AR, DR] at hx hy
    subst hy
    obtain ⟨a', c, rfl, hc, hl⟩ := hx
    simp only [Option.any_eq_true] at ht
    obtain ⟨yt, hyt, hk⟩ := ht
    have hu : ∃ e, P.underlying xT = some (.slice e) := by
      unfold Ty.isSl at hk
      split at hk
      · rename_i e he; exact ⟨e, under_slice hT hyt he⟩
      · simp at hk
    obtain ⟨e, hu⟩ := hu
    have hg : ∀ op, (eqGuard op xT x y (.slice a' n c) (.slice none 0 0)).run P w = .ok () w := by
      intro op; unfold eqGuard; cases op <;> simp
    have hn : cells ≠ [] → a' ≠ none := by
      intro hn e0
      subst e0
      rcases hl with rfl | ⟨_, _, h', _⟩
      · exact hn rfl
      · cases h'
    split at h
    · cases a' with
      | none => exact ⟨_, _, h.1 (Classical.byContradiction fun c => hn c rfl), AR.bool _, by simp [hg, binOp_eql_slice, run_equal_nil hu]⟩
      | some a' => exact ⟨_, _, h.2, AR.bool _, by simp [hg, binOp_eql_slice, run_equal_nil hu]⟩
    · cases a' with
      | none => exact ⟨_, _, h.1 (Classical.byContradiction fun c => hn c rfl), AR.bool _, by simp [hg, binOp_neq_slice, run_equal_nil hu]⟩
      | some a' => exact ⟨_, _, h.2, AR.bool _, by simp [hg, binOp_neq_slice, run_equal_nil hu]⟩
    · exact h.elim
  · exact h.elim

theorem unEv_sound {op : UnOp} {a : A} {u : Value} (h : unEv op a K) (hx : AR β S w a u) : Gives P β S w (Op.unary op u) K := by
  unfold unEv at h
  split at h
  all_goals first
    | (simp only [AR, DR] at hx; subst hx; obtain ⟨_, rfl, h⟩ := h; exact ⟨_, _, h, AR.int _ _, by simp [Op.unary, Op.intArith, Op.intBits]⟩)
    | (simp only [AR, DR] at hx; subst hx; exact ⟨_, _, h, AR.bool _, by simp [Op.unary]⟩)
    | exact h.elim

theorem tySlice_elim (hT : TabOk P T) {t : Nat} {K : Nat → Ty → Prop} (h : tySlice T t K) : ∃ e ye, P.underlying t = some (.slice e) ∧ T e = some ye ∧ K e ye := by
  unfold tySlice at h
  split at h
  · rename_i y hy
    split at h
    · rename_i e he
      split at h
      · rename_i ye hye
        exact ⟨e, ye, under_slice hT hy he, hye, h⟩
      · exact h.elim
    · exact h.elim
  · exact h.elim
theorem tyArray_elim (hT : TabOk P T) {t : Nat} {K : Nat → Nat → Ty → Prop} (h : tyArray T t K) : ∃ n e ye, P.underlying t = some (.array n e) ∧ T e = some ye ∧ K n e ye := by
  unfold tyArray at h
  split at h
  · rename_i y hy
    split at h
    · rename_i n e he
      split at h
      · rename_i ye hye
        exact ⟨n, e, ye, under_array hT hy he, hye, h⟩
      · exact h.elim
    · exact h.elim
  · exact h.elim
theorem tyStruct_elim (hT : TabOk P T) {t : Nat} {K : List (Nat × Nat × Bool) → Prop} (h : tyStruct T t K) : ∃ l fs, P.underlying t = some (.struct fs) ∧ K l ∧
    ∀ {f o s : Nat} {g : Bool}, l[f]? = some (o, s, g) → ∃ F, fs[f]? = some F ∧ F.offset = o ∧ s ≠ 0 ∧ ∃ i d, P.info? F.type = some i ∧ P.underlying F.type = some d ∧ i.size = s ∧ aggDesc d = g := by
  unfold tyStruct at h
  split at h
  · rename_i y hy
    split at h
    · rename_i l hl
      obtain ⟨fs, h1, h2⟩ := under_struct hT hy hl
      exact ⟨l, fs, h1, h, h2⟩
    · exact h.elim
  · exact h.elim

/-- Cells, one after another, loaded. -/
theorem run_loadCellsFrom {a : Addr} : ∀ (n i : Nat) (acc : Array Value) (f : Nat → Value), (∀ j, j < n → w.cell? (a.add (i + j)) = some (f j)) →
    (loadCellsFrom a i n acc).run P w = .ok (acc ++ ((List.range n).map f).toArray) w
  | 0, i, acc, f, _ => by simp [loadCellsFrom]
  | n + 1, i, acc, f, h => by
    have h0 := h 0 (by omega)
    have ih := run_loadCellsFrom n (i + 1) (acc.push (f 0)) (fun j => f (j + 1)) (fun j hj => by
      have := h (j + 1) (by omega)
      rwa [show i + (j + 1) = i + 1 + j by omega] at this)
    simp only [Nat.add_zero] at h0
    simp only [loadCellsFrom, Sem.run_bind, run_load, h0, Result.andThen_ok]
    rw [ih]
    congr 1
    rw [List.range_succ_eq_map]
    simp [Function.comp_def]

theorem add_none (k o n : Nat) : (⟨k, o, none⟩ : Addr).add n = ⟨k, o + n, none⟩ := by
  unfold Addr.add
  split
  · subst_vars; simp
  · simp

theorem cell_of_block {k : Nat} {C : Array Value} {T : TypeId} {fr : Nat × Nat} (h : w.heap[k]? = some (.cells C T fr)) (o : Nat) : w.cell? ⟨k, o, none⟩ = C[o]? := by
  simp [World.cell?, h]

theorem take_drop_get {α : Type} {l : List α} {o s j : Nat} {x : α} (h : ((l.drop o).take s)[j]? = some x) : l[o + j]? = some x ∧ j < s := by
  rw [List.getElem?_take] at h
  split at h
  · rename_i hj
    exact ⟨by simpa using h, hj⟩
  · simp at h

theorem loadEv_sound (hT : TabOk P T) {hp : Nat → Option (Bool × List A)} (hh : HeapRd β S w hp) {t : Nat} {a : A} {u : Value} (h : loadEv T hp t a K) (hx : AR β S w a u) :
    Gives P β S w (Instr.loadAt t u) K := by
  unfold loadEv at h
  split at h
  · rename_i y hy
    have hagg := run_isAgg' hT hy w
    have hsz := run_sizeOf' hT hy w
    split at h
    · rename_i b o
      simp only [AR] at hx
      obtain ⟨k, hk, rfl⟩ := hx
      split at h
      · rename_i fr l hl
        obtain ⟨C, Tc, hC, hlen, hcells⟩ := hh b k _ _ hk hl
        split at h
        · rename_i hg
          obtain ⟨xs, rfl, hxl, hK⟩ := h
          have hle : o + y.size ≤ l.length ∨ y.size = 0 := by
            simp at hxl; omega
          have hrun : (loadCells ⟨k, o, none⟩ y.size).run P w = .ok (((List.range y.size).map fun j => C.getD (o + j) undef).toArray) w := by
            have := run_loadCellsFrom (P := P) (w := w) (a := ⟨k, o, none⟩) y.size 0 #[] (fun j => C.getD (o + j) undef) (fun j hj => by
              rw [add_none, cell_of_block hC]
              have : o + (0 + j) < C.size := by omega
              simp [show o + j < C.size by omega])
            simpa [loadCells] using this
          refine ⟨_, _, hK, AR_mkAgg (vs := ((List.range y.size).map fun j => C.getD (o + j) undef).toArray) ?_, ?_⟩
          · refine ARs_mk (by simp only [hxl]; simp) fun j x u' hj hu => ?_
            obtain ⟨hj', hjs⟩ := take_drop_get hj
            obtain ⟨v', hv', hR⟩ := hcells _ _ hj'
            simp only [List.getElem?_map, List.getElem?_range hjs, Option.map_some, Option.some.injEq] at hu
            rw [← hu]
            simpa [Array.getD_eq_getD_getElem?, hv'] using hR
          · simp only [Instr.loadAt, Instr.sureAddr, loadVar, pure_bind, Sem.run_bind, hagg, hg, Result.andThen_ok, if_true, hsz, hrun, Sem.run_pure]
        · rename_i hg
          obtain ⟨x, hx, hK⟩ := h
          obtain ⟨v', hv', hR⟩ := hcells _ _ hx
          refine ⟨_, _, hK, hR, ?_⟩
          simp [Instr.loadAt, Instr.sureAddr, loadVar, hagg, hg, cell_of_block hC, hv']
      · exact h.elim
    · rename_i cells
      simp only [AR] at hx
      obtain ⟨k, o, rfl, hl⟩ := hx
      split at h
      · rename_i hg
        obtain ⟨xs, rfl, hxl, hK⟩ := h
        have hle : y.size ≤ cells.length ∨ y.size = 0 := by
          simp at hxl; omega
        have hf : ∀ j, j < y.size → ∃ u x, cells[j]? = some x ∧ w.cell? ⟨k, o + j, none⟩ = some u ∧ DR S w x u := by
          intro j hj
          obtain ⟨x, hx⟩ : ∃ x, cells[j]? = some x := ⟨cells[j]'(by omega), by simp⟩
          obtain ⟨_, u, h1, h2⟩ := DRL_get hl hx
          exact ⟨u, x, hx, h1, h2⟩
        have hrun : (loadCells ⟨k, o, none⟩ y.size).run P w = .ok (((List.range y.size).map fun j => (w.cell? ⟨k, o + j, none⟩).getD undef).toArray) w := by
          have := run_loadCellsFrom (P := P) (w := w) (a := ⟨k, o, none⟩) y.size 0 #[] (fun j => (w.cell? ⟨k, o + j, none⟩).getD undef) (fun j hj => by
            obtain ⟨u, x, h1, h2, h3⟩ := hf j hj
            rw [add_none]
            simp [h2])
          simpa [loadCells] using this
        refine ⟨_, .agg ((List.range y.size).map fun j => (w.cell? ⟨k, o + j, none⟩).getD undef).toArray, hK, ?_, ?_⟩
        · simp only [AR, DR]
          refine ⟨_, rfl, DRs_mk (by simp only [hxl]; simp) fun j x u' hj hu => ?_⟩
          rw [List.drop_zero, List.getElem?_take] at hj
          split at hj
          · rename_i hjs
            obtain ⟨u, x', h1, h2, h3⟩ := hf j hjs
            rw [h1] at hj; cases hj
            simp only [List.getElem?_map, List.getElem?_range hjs, Option.map_some, Option.some.injEq, h2, Option.getD_some] at hu
            rwa [← hu]
          · simp at hj
        · simp only [Instr.loadAt, Instr.sureAddr, loadVar, pure_bind, Sem.run_bind, hagg, hg, Result.andThen_ok, if_true, hsz, hrun, Sem.run_pure]
      · rename_i hg
        obtain ⟨x, hx, hK⟩ := h
        obtain ⟨_, u, h1, h2⟩ := DRL_get hl hx
        refine ⟨_, u, hK, by simp only [AR]; exact h2, ?_⟩
        simp only [Nat.add_zero] at h1
        simp [Instr.loadAt, Instr.sureAddr, loadVar, hagg, hg, h1]
    · exact h.elim
  · exact h.elim

theorem run_part {t : Nat} {i : TypeInfo} {d : TypeDesc} (hi : P.info? t = some i) (hd : P.underlying t = some d) (cs : Array Value) (off : Nat) :
    (part t cs off).run P w = if aggDesc d then .ok (.agg (cs.extract off (off + i.size))) w else match cs[off]? with | some v => .ok v w | none => .halt (.stuck "part: no such cell") w := by
  have h1 : (isAgg t).run P w = .ok (aggDesc d) w := by
    simp only [isAgg, Sem.run_bind, run_underlying hd, Result.andThen_ok]
    unfold aggDesc; split <;> simp
  have h2 : (sizeOf t).run P w = .ok i.size w := by simp [sizeOf, typeInfo, hi]
  simp only [part, Sem.run_bind, h1, Result.andThen_ok]
  cases aggDesc d
  · simp only [Bool.false_eq_true, if_false]; cases cs[off]? <;> simp
  · simp [h2]

theorem partEv_sound {t : Nat} {i : TypeInfo} {d : TypeDesc} (hi : P.info? t = some i) (hd : P.underlying t = some d) {g : Bool} {o s : Nat} (hg : aggDesc d = g) (hs : i.size = s)
    {x : A} {u : Value} (h : partEv g o s x K) (hx : AR β S w x u) : Gives P β S w (do part t (← asAgg u) o) K := by
  unfold partEv at h
  split at h
  · rename_i l
    simp only [AR, DR] at hx
    obtain ⟨vs, rfl, hl⟩ := hx
    have hlen := DRs_length hl
    split at h
    · obtain ⟨xs, rfl, hxl, hK⟩ := h
      refine ⟨_, .agg (vs.extract o (o + s)), hK, ?_, by simp [asAgg, run_part hi hd, hg, hs]⟩
      simp only [AR, DR]
      refine ⟨_, rfl, DRs_mk (by simp at hlen hxl ⊢; omega) fun j x u' hj hu => ?_⟩
      obtain ⟨hj', hjs⟩ := take_drop_get hj
      obtain ⟨v', hv', hR⟩ := DRs_get hl hj'
      rw [Array.toList_extract] at hu
      have : vs.toList[o + j]? = some u' := by
        have := hu
        simp only [List.extract_eq_take_drop, show o + s - o = s by omega] at this
        exact (take_drop_get this).1
      rw [hv'] at this; cases this
      exact hR
    · obtain ⟨x, hx, hK⟩ := h
      obtain ⟨v', hv', hR⟩ := DRs_get hl hx
      refine ⟨_, v', hK, by simp only [AR]; exact hR, ?_⟩
      have : vs[o]? = some v' := by simpa using hv'
      simp [asAgg, run_part hi hd, hg, this]
  · rename_i l
    simp only [AR] at hx
    obtain ⟨vs, rfl, hl⟩ := hx
    have hlen := ARs_length hl
    split at h
    · obtain ⟨xs, rfl, hxl, hK⟩ := h
      refine ⟨_, .agg (vs.extract o (o + s)), hK, AR_mkAgg ?_, by simp [asAgg, run_part hi hd, hg, hs]⟩
      refine ARs_mk (by simp at hlen hxl ⊢; omega) fun j x u' hj hu => ?_
      obtain ⟨hj', hjs⟩ := take_drop_get hj
      obtain ⟨v', hv', hR⟩ := ARs_get hl hj'
      rw [Array.toList_extract] at hu
      have : vs.toList[o + j]? = some u' := by
        have := hu
        simp only [List.extract_eq_take_drop, show o + s - o = s by omega] at this
        exact (take_drop_get this).1
      rw [hv'] at this; cases this
      exact hR
    · obtain ⟨x, hx, hK⟩ := h
      obtain ⟨v', hv', hR⟩ := ARs_get hl hx
      refine ⟨_, v', hK, hR, ?_⟩
      have : vs[o]? = some v' := by simpa using hv'
      simp [asAgg, run_part hi hd, hg, this]
  · exact h.elim

theorem fieldEv_sound (hT : TabOk P T) {s f : Nat} {x : A} {u : Value} (h : fieldEv T s x f K) (hx : AR β S w x u) : Gives P β S w (Instr.field s u f) K := by
  obtain ⟨l, fs, hu, hk, hf⟩ := tyStruct_elim hT h
  split at hk
  · rename_i off sz g hl
    obtain ⟨F, h1, h2, h3, i, d, hi, hd, hs, hg⟩ := hf hl
    obtain ⟨r, v, hK, hR, hrun⟩ := partEv_sound hi hd hg hs hk hx
    refine ⟨r, v, hK, hR, ?_⟩
    simp only [Instr.field, Sem.run_bind, run_underlying hu, Result.andThen_ok, h1, h2]
    simpa using hrun
  · exact hk.elim

theorem fieldAddrEv_sound (hT : TabOk P T) {s f : Nat} {x : A} {u : Value} (h : fieldAddrEv T s x f K) (hx : AR β S w x u) : Gives P β S w (Instr.fieldAt s u f) K := by
  obtain ⟨l, fs, hu, hk, hf⟩ := tyStruct_elim hT h
  split at hk
  · rename_i off sz g hl
    obtain ⟨F, h1, h2, h3, i, d, hi, hd, hs, hg⟩ := hf hl
    have hsz : (sizeOf F.type).run P w = .ok sz w := by simp [sizeOf, typeInfo, hi, hs]
    have hrun : ∀ a : Addr, (Instr.fieldAt s (.pointer (some a)) f).run P w = .ok (.pointer (some (a.add off))) w := by
      intro a
      simp [Instr.fieldAt, run_underlying hu, h1, Instr.sureAddr, fieldPlace, hsz, h3, h2]
    split at hk
    · rename_i b o
      simp only [AR] at hx
      obtain ⟨k, hk', rfl⟩ := hx
      exact ⟨_, _, hk, by simp only [AR]; exact ⟨k, hk', rfl⟩, by rw [hrun, add_none]⟩
    · rename_i cells
      simp only [AR] at hx
      obtain ⟨k, o, rfl, hl⟩ := hx
      exact ⟨_, _, hk, by simp only [AR]; exact ⟨k, o + off, rfl, DRL_drop hl off⟩, by rw [hrun, add_none]⟩
    · exact hk.elim
  · exact hk.elim

theorem run_indexAt_array' {t n e : Nat} {ye : Ty} (hT : TabOk P T) (hu : P.underlying t = some (.array n e)) (hye : T e = some ye) (a : Addr) (k : IntKind) {i : Int} (hi : 0 ≤ i ∧ i < n) :
    (Instr.indexAt t (.pointer (some a)) (.int k i)).run P w = .ok (.pointer (some (a.add (i.toNat * ye.size)))) w := by
  simp [Instr.indexAt, run_underlying hu, asIntOf, Instr.sureAddr, hi, run_sizeOf' hT hye]
theorem run_indexAt_slice' {t e : Nat} {ye : Ty} (hT : TabOk P T) (hu : P.underlying t = some (.slice e)) (hye : T e = some ye) (a : Addr) (n c : Nat) (k : IntKind) {i : Int} (hi : 0 ≤ i ∧ i < n) :
    (Instr.indexAt t (.slice (some a) n c) (.int k i)).run P w = .ok (.pointer (some (a.add (i.toNat * ye.size)))) w := by
  simp [Instr.indexAt, run_underlying hu, asIntOf, Instr.sureAddr, hi, run_sizeOf' hT hye]

theorem indexAddrEv_sound (hT : TabOk P T) {t : Nat} {x i : A} {u v : Value} (h : indexAddrEv T t x i K) (hx : AR β S w x u) (hi : AR β S w i v) : Gives P β S w (Instr.indexAt t u v) K := by
  unfold indexAddrEv at h
  split at h
  · rename_i ki i
    simp only [AR, DR] at hi
    subst hi
    split at h
    · rename_i n cells
      obtain ⟨e, ye, hu, hye, ⟨h1, h2⟩, h3⟩ := tySlice_elim hT h
      simp only [AR, DR] at hx
      obtain ⟨a, c, rfl, hc, hl⟩ := hx
      rcases hl with rfl | ⟨b, o, rfl, hl⟩
      · simp at h2
      · exact ⟨_, _, h3, by simp only [AR]; exact ⟨b, _, rfl, DRL_drop hl _⟩, by rw [run_indexAt_slice' hT hu hye _ _ _ _ h1, add_none]⟩
    · rename_i b o n sz
      obtain ⟨e, ye, hu, hye, hsz, h1, h3⟩ := tySlice_elim hT h
      simp only [AR] at hx
      rcases hx with ⟨k, hk, c, C, Tc, fr, rfl, hc, hC, hl⟩ | ⟨rfl, _⟩
      · exact ⟨_, _, h3, by simp only [AR]; exact ⟨k, hk, rfl⟩, by rw [run_indexAt_slice' hT hu hye _ _ _ _ h1, add_none]⟩
      · omega
    · rename_i b o
      obtain ⟨n, e, ye, hu, hye, h1, h3⟩ := tyArray_elim hT h
      simp only [AR] at hx
      obtain ⟨k, hk, rfl⟩ := hx
      exact ⟨_, _, h3, by simp only [AR]; exact ⟨k, hk, rfl⟩, by rw [run_indexAt_array' hT hu hye _ _ h1, add_none]⟩
    · rename_i cells
      obtain ⟨n, e, ye, hu, hye, h1, h3⟩ := tyArray_elim hT h
      simp only [AR] at hx
      obtain ⟨k, o, rfl, hl⟩ := hx
      exact ⟨_, _, h3, by simp only [AR]; exact ⟨k, _, rfl, DRL_drop hl _⟩, by rw [run_indexAt_array' hT hu hye _ _ h1, add_none]⟩
    · exact h.elim
  · exact h.elim

theorem indexEv_sound (hT : TabOk P T) {t : Nat} {x i : A} {u v : Value} (h : indexEv T t x i K) (hx : AR β S w x u) (hi : AR β S w i v) : Gives P β S w (Instr.index t u v) K := by
  unfold indexEv at h
  split at h
  · rename_i ki i
    simp only [AR, DR] at hi
    subst hi
    split at h
    · rename_i s
      obtain ⟨ht, h1, z, rfl, h2⟩ := h
      simp only [AR, DR] at hx
      subst hx
      simp only [Option.any_eq_true, decide_eq_true_eq] at ht
      obtain ⟨yt, hyt, hk⟩ := ht
      have hu := under_str hT hyt hk
      refine ⟨_, _, h2, AR.int _ _, ?_⟩
      have hlt : i.toNat < s.data.toList.length := by
        have : s.data.toList.length = s.size := by simp
        omega
      have hg := nth_get (d := (0 : UInt8)) hlt
      have hs : s[i.toNat]? = some (nth 0 s.data.toList i.toNat) := by
        have h3 : i.toNat < s.size := by simpa using hlt
        rw [getElem?_pos s i.toNat h3]
        have h4 : s.data.toList[i.toNat]? = some s[i.toNat] := by
          rw [List.getElem?_eq_getElem hlt]; rfl
        rw [h4] at hg
        exact hg
      simp [Instr.index, asIntOf, run_underlying hu, h1.1, hs]
    · rename_i x hxs
      obtain ⟨n, e, ye, hu, hye, h1, h3⟩ := tyArray_elim hT h
      obtain ⟨ie, de, hie, hde, hs, _, hag, _⟩ := Ty.info hT hye
      obtain ⟨r, v', hK, hR, hrun⟩ := partEv_sound hie hde hag hs h3 hx
      refine ⟨r, v', hK, hR, ?_⟩
      have hcs : ∃ cs, u = .agg cs := by
        unfold partEv at h3
        split at h3
        · simp only [AR, DR] at hx; obtain ⟨vs, rfl, _⟩ := hx; exact ⟨_, rfl⟩
        · simp only [AR] at hx; obtain ⟨vs, rfl, _⟩ := hx; exact ⟨_, rfl⟩
        · exact h3.elim
      obtain ⟨cs, rfl⟩ := hcs
      simp only [asAgg, pure_bind] at hrun
      simp [Instr.index, asIntOf, run_underlying hu, h1, run_sizeOf' hT hye, hrun]
  · exact h.elim

theorem convEv_sound (hT : TabOk P T) {s d : Nat} {x : A} {u : Value} (h : convEv T s d x K) (hx : AR β S w x u) : Gives P β S w (convert s d u) K := by
  unfold convEv at h
  split at h
  · rename_i k n
    obtain ⟨hs, h⟩ := h
    simp only [AR, DR] at hx
    subst hx
    obtain ⟨ys, hys⟩ := Option.isSome_iff_exists.mp hs
    obtain ⟨is, ds, _, hds, _⟩ := Ty.info hT hys
    split at h
    · rename_i y hy
      split at h
      · rename_i k' hk
        obtain ⟨_, rfl, h⟩ := h
        exact ⟨_, _, h, AR.int _ _, by simp [convert, run_underlying hds, run_underlying (under_int hT hy hk), Conv.intToInt]⟩
      · exact h.elim
    · exact h.elim
  · rename_i s'
    obtain ⟨h1, h2, h3⟩ := h
    simp only [AR, DR] at hx
    subst hx
    simp only [Option.any_eq_true, decide_eq_true_eq] at h1 h2
    obtain ⟨y1, hy1, hk1⟩ := h1
    obtain ⟨y2, hy2, hk2⟩ := h2
    exact ⟨_, _, h3, AR.str _, by simp [convert, run_underlying (under_str hT hy1 hk1), run_underlying (under_str hT hy2 hk2)]⟩
  · exact h.elim

theorem A.cells_AR {x : A} {u : Value} (h : AR β S w x u) (hx : x.full = true) : ARs β S w x.cells u.cells.toList := by
  cases x with
  | d y =>
    cases y with
    | any => simp [A.full] at hx
    | tup _ => simp [A.full] at hx
    | agg l =>
      simp only [AR, DR] at h
      obtain ⟨vs, rfl, h⟩ := h
      exact ARs_of_DRs h
    | raw v =>
      have h0 := h
      simp only [AR, DR] at h
      subst h
      have : u.cells = #[u] := by cases u <;> first | rfl | simp [A.full, Value.oneCell'] at hx
      rw [this]
      simp only [A.cells, ARs]
      exact ⟨u, [], rfl, h0, rfl⟩
    | slice n l =>
      have h0 := h
      simp only [AR, DR] at h
      obtain ⟨a, c, rfl, _⟩ := h
      simp only [A.cells, ARs]
      exact ⟨_, [], rfl, h0, rfl⟩
    | _ =>
      have h0 := h
      simp only [AR, DR] at h
      subst h
      simp only [A.cells, ARs]
      exact ⟨_, [], rfl, h0, rfl⟩
  | ptr b o =>
    have h0 := h
    simp only [AR] at h
    obtain ⟨k, _, rfl⟩ := h
    simp only [A.cells, ARs]
    exact ⟨_, [], rfl, h0, rfl⟩
  | elem c =>
    have h0 := h
    simp only [AR] at h
    obtain ⟨k, o, rfl, _⟩ := h
    simp only [A.cells, ARs]
    exact ⟨_, [], rfl, h0, rfl⟩
  | own b o n sz =>
    have h0 := h
    simp only [AR] at h
    have : u.cells = #[u] := by
      rcases h with ⟨k, _, c, C, T, fr, rfl, _⟩ | ⟨_, _, a, rfl⟩ <;> rfl
    rw [this]
    simp only [A.cells, ARs]
    exact ⟨_, [], rfl, h0, rfl⟩
  | agg l =>
    simp only [AR] at h
    obtain ⟨vs, rfl, h⟩ := h
    exact h

theorem getElem?_setAt {α : Type} : ∀ (xs l : List α) (o j : Nat), o + xs.length ≤ l.length → (setAt l o xs)[j]? = if o ≤ j ∧ j < o + xs.length then xs[j - o]? else l[j]?
  | [], l, o, j, _ => by simp only [setAt, List.length_nil]; rw [if_neg (by omega)]
  | x :: xs, l, o, j, h => by
    simp only [List.length_cons] at h
    simp only [setAt]
    rw [getElem?_setAt xs (l.set o x) (o + 1) j (by simp; omega)]
    by_cases h1 : o + 1 ≤ j ∧ j < o + 1 + xs.length
    · rw [if_pos h1, if_pos (by simp; omega), show j - o = (j - (o + 1)) + 1 by omega]
      simp
    · rw [if_neg h1, List.getElem?_set]
      by_cases h2 : o = j
      · subst h2
        simp only [if_true]
        rw [if_pos (by omega), if_pos (by simp)]
        simp
      · rw [if_neg h2, if_neg (by simp; omega)]

theorem ARs_setAt {l xs : List A} {vs us : List Value} {o : Nat} (h : ARs β S w l vs) (hx : ARs β S w xs us) (ho : o + xs.length ≤ l.length) : ARs β S w (setAt l o xs) (setAt vs o us) := by
  have e1 := ARs_length h
  have e2 := ARs_length hx
  refine ARs_mk (by simp [length_setAt, e1]) fun j x u hj hu => ?_
  rw [getElem?_setAt _ _ _ _ ho] at hj
  rw [getElem?_setAt _ _ _ _ (by omega), e2] at hu
  split at hj
  · rename_i hc
    rw [if_pos hc] at hu
    obtain ⟨u', hu', hR⟩ := ARs_get hx hj
    rw [hu] at hu'; cases hu'; exact hR
  · rename_i hc
    rw [if_neg hc] at hu
    obtain ⟨u', hu', hR⟩ := ARs_get h hj
    rw [hu] at hu'; cases hu'; exact hR

theorem fold_setAt : ∀ (us : List Value) (n off : Nat) (cs : Array Value), ((us.zipIdx n).foldl (fun (cs : Array Value) (c, j) => cs.setIfInBounds (off + j) c) cs).toList = setAt cs.toList (off + n) us
  | [], n, off, cs => by simp [setAt]
  | u :: us, n, off, cs => by
    simp only [List.zipIdx_cons, List.foldl_cons, setAt]
    rw [fold_setAt us (n + 1) off]
    simp [Nat.add_assoc]

theorem zeros_ARs (z : List ZK) : ARs β S w (zeros z) (z.map ZK.val) :=
  ARs_mk (by simp [zeros]) fun j x u hj hu => by
    simp only [zeros, List.getElem?_map, Option.map_eq_some_iff] at hj hu
    obtain ⟨a, ha, rfl⟩ := hj
    obtain ⟨b, hb, rfl⟩ := hu
    rw [ha] at hb; cases hb
    simp only [AR]; exact ZK.toD_val a

/-- Parts, related one by one. -/
inductive PartsR (β : Own) (S : Imm) (w : World) : List (Nat × A) → List (Nat × Value) → Prop
  | nil : PartsR β S w [] []
  | cons {i : Nat} {x : A} {v : Value} {l : List (Nat × A)} {l' : List (Nat × Value)} (h : AR β S w x v) (t : PartsR β S w l l') : PartsR β S w ((i, x) :: l) ((i, v) :: l')

theorem fillA_sound {place : Nat → Option (Nat × Nat)} : ∀ {parts : List (Nat × A)} {vparts : List (Nat × Value)} {cells : List A} {vcells : Array Value} {K : List A → Prop},
    fillA place cells parts K → PartsR β S w parts vparts → ARs β S w cells vcells.toList → ∃ c vc, K c ∧ ARs β S w c vc.toList ∧ Instr.fill place vcells vparts = some vc
  | [], vparts, cells, vcells, K, h, hp, hc => by
    cases hp
    exact ⟨cells, vcells, h, hc, by simp [Instr.fill]⟩
  | (i, x) :: rest, vparts, cells, vcells, K, h, hp, hc => by
    cases hp with
    | cons hx ht =>
      rename_i v l'
      simp only [fillA] at h
      split at h
      · exact h.elim
      · rename_i off size hpl
        obtain ⟨hf, hl, ho, h⟩ := h
        rw [forceL_eq] at h
        have hcx := A.cells_AR hx hf
        have e1 := ARs_length hcx
        have e2 := ARs_length hc
        have e3 := fold_setAt v.cells.toList 0 off vcells
        have hzip : (v.cells.zipIdx.foldl (fun cs (c, j) => cs.setIfInBounds (off + j) c) vcells).toList = setAt vcells.toList off v.cells.toList := by
          have e4 : v.cells.zipIdx.foldl (fun cs (c, j) => cs.setIfInBounds (off + j) c) vcells = (v.cells.toList.zipIdx).foldl (fun cs (c, j) => cs.setIfInBounds (off + j) c) vcells := by
            rw [← Array.foldl_toList]; simp
          rw [e4]
          simpa using e3
        obtain ⟨c, vc, hK, hR, hfill⟩ := fillA_sound h ht (vcells := v.cells.zipIdx.foldl (fun cs (c, j) => cs.setIfInBounds (off + j) c) vcells) (by
          rw [hzip]
          exact ARs_setAt hc hcx (by rw [hl]; exact ho))
        refine ⟨c, vc, hK, hR, ?_⟩
        simp only [Instr.fill, hpl]
        rw [if_neg]
        · exact hfill
        · have e5 : v.cells.size = size := by simpa [hl] using e1
          have e6 : vcells.size = cells.length := by simpa using e2
          simp [e5, e6]; omega

theorem run_mapM_fields : ∀ (fs : List Field), (∀ F ∈ fs, ∃ i, P.info? F.type = some i) →
    (∃ ps : List (Nat × Nat), (fs.mapM fun f => (do pure (f.offset, ← sizeOf f.type) : Sem (Nat × Nat))).run P w = .ok ps w ∧ ps = fs.map fun f => (f.offset, P.cellsOf f.type))
  | [], _ => ⟨[], by simp, rfl⟩
  | F :: fs, h => by
    obtain ⟨ps, h1, h2⟩ := run_mapM_fields fs fun F hF => h F (by simp [hF])
    obtain ⟨i, hi⟩ := h F (by simp)
    refine ⟨(F.offset, P.cellsOf F.type) :: ps, ?_, by simp [h2]⟩
    simp [sizeOf, typeInfo, hi, h1, Program.cellsOf] at h1 ⊢
    simp [h1]
end
end Go.Ev
