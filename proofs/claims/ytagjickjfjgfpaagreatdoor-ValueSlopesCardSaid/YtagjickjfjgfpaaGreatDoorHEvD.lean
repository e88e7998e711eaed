/- Contracts of the given functions, on data. Conditions stand in each theorem. -/
import Derived.Test.YtagjickjfjgfpaaGreatDoorHEvA
set_option linter.unusedSimpArgs false
set_option linter.unusedVariables false
namespace Go.Ev
open Go
def Rd (β : Own) (S : Imm) (w : World) (k : Nat) (l : List A) : Prop :=
 ∃ (C : Array Value) (T : TypeId), w.heap[k]? = some (.cells C T (0, 0)) ∧ l.length ≤ C.size ∧ ∀ (j : Nat) (x : A), l[j]? = some x → ∃ u, C[j]? = some u ∧ AR β S w x u
def afe (β : Own) (S : Imm) (w : World) (hp : Nat → Option (Bool × List A)) : Prop :=
 ∀ b k fr l, β b = some (some k) → hp b = some (fr, l) → Rd β S w k l
def qk (P : Program) (β : Own) (S : Imm) (w : World) (s : Sem Value) (K : A → Prop) : Prop :=
 ∃ r v, K r ∧ AR β S w r v ∧ s.run P w = .ok v w
section
variable {β : Own} {S : Imm} {w : World}
theorem AR.bool (b : Bool) : AR β S w (.d (.bool b)) (.bool b) := by simp only [AR, DR]
theorem AR.int (k : IntKind) (n : Int) : AR β S w (.d (.int k n)) (.int k n) := by simp only [AR, DR]
theorem AR.str (s : ByteArray) : AR β S w (.d (.str s)) (.string s) := by simp only [AR, DR]
end
section
variable {P : Program} {w : World} {t : TypeId}
theorem run_equal_bool (hu : P.underlying t = some .bool) (p q : Bool) : (Op.equal t (.bool p) (.bool q)).run P w = .ok (p == q) w := by
 have h : ∀ d, (Op.equalIn (d + 1) t (.bool p) (.bool q)).run P w = .ok (p == q) w := fun d => by
  simp [Op.equalIn, run_underlying hu]
 exact h 9999
theorem n8 {e : Nat} (hu : P.underlying t = some (.slice e)) (a : Option Addr) (n c : Nat) : (Op.equal t (.slice a n c) (.slice none 0 0)).run P w = .ok a.isNone w := by
 have h : ∀ d, (Op.equalIn (d + 1) t (.slice a n c) (.slice none 0 0)).run P w = .ok a.isNone w := fun d => by
  cases a <;> simp [Op.equalIn, run_underlying hu]
 exact h 9999
theorem afk (p q : Bool) : binOp .eql t (.bool p) (.bool q) = (do pure (.bool (← Op.equal t (.bool p) (.bool q)))) := rfl
theorem afl (p q : Bool) : binOp .neq t (.bool p) (.bool q) = (do pure (.bool (!(← Op.equal t (.bool p) (.bool q))))) := rfl
theorem wb (a : Option Addr) (n c : Nat) : binOp .eql t (.slice a n c) (.slice none 0 0) = (do pure (.bool (← Op.equal t (.slice a n c) (.slice none 0 0)))) := rfl
theorem wc (a : Option Addr) (n c : Nat) : binOp .neq t (.slice a n c) (.slice none 0 0) = (do pure (.bool (!(← Op.equal t (.slice a n c) (.slice none 0 0))))) := rfl
end
section
variable {P : Program} {T : Tab} {β : Own} {S : Imm} {w : World} {K : A → Prop}
theorem alx (hT : b6 P T) {op : BinOp} {xT : Nat} {a b : A} {x y : Operand} {u v : Value} (h : alw T op xT a b K) (hx : AR β S w a u) (hy : AR β S w b v) :
  qk P β S w (do eqGuard op xT x y u v; binOp op xT u v) K := by
 unfold alw at h
 split at h
 ·rename_i k p k' q
  simp only [AR, DR] at hx hy
  subst hx hy
  have hg : ∀ op, (eqGuard op xT x y (.int k p) (.int k' q)).run P w = .ok () w := by
   intro op; unfold eqGuard; cases op <;> simp
  split at h
  ·obtain ⟨h1, _, rfl, h⟩ := h
   exact ⟨_, _, h, AR.int _ _, by simp [hg, binOp, Op.shift, show ¬ q < 0 by omega]⟩
  ·obtain ⟨h1, _, rfl, h⟩ := h
   exact ⟨_, _, h, AR.int _ _, by simp [hg, binOp, Op.shift, show ¬ q < 0 by omega]⟩
  ·obtain ⟨rfl, h⟩ := h
   unfold apd at h
   split at h
   all_goals first
    | (obtain ⟨_, rfl, h⟩ := h; exact ⟨_, _, h, AR.int _ _, by simp [hg, binOp, Op.intArith, Op.intBits]⟩)
    | exact ⟨_, _, h, AR.bool _, by simp [hg, binOp, Op.intCmp] <;> rfl⟩
    | (obtain ⟨h1, _, rfl, h⟩ := h; exact ⟨_, _, h, AR.int _ _, by simp [hg, binOp, Op.intDiv, h1]⟩)
    | exact h.elim
 ·rename_i p q
  simp only [AR, DR] at hx hy
  subst hx hy
  obtain ⟨ht, h⟩ := h
  simp only [Option.any_eq_true, decide_eq_true_eq] at ht
  obtain ⟨yt, hyt, hk⟩ := ht
  have hu := aqy hT hyt hk
  have hg : ∀ op, (eqGuard op xT x y (.bool p) (.bool q)).run P w = .ok () w := by
   intro op; unfold eqGuard; cases op <;> simp
  split at h
  ·exact ⟨_, _, h, AR.bool _, by simp [hg, afk, run_equal_bool hu]⟩
  ·exact ⟨_, _, h, AR.bool _, by simp [hg, afl, run_equal_bool hu]⟩
  ·exact h.elim
 ·rename_i p q
  simp only [AR, DR] at hx hy
  subst hx hy
  have hg : ∀ op, (eqGuard op xT x y (.string p) (.string q)).run P w = .ok () w := by
   intro op; unfold eqGuard; cases op <;> simp
  split at h
  ·obtain ⟨hsz, h⟩ := h
   refine ⟨_, _, h, AR.str _, ?_⟩
   have : ¬ ((p.size + q.size : Nat) : Int) > IntKind.i64.max := by
    have : IntKind.i64.max = 9223372036854775807 := by decide
    rw [this]; omega
   simp only [Sem.run_bind, hg, Result.andThen_ok, binOp, Op.stringOp, if_neg this]
   rfl
  all_goals first
   | exact ⟨_, _, h, AR.bool _, by simp [hg, binOp, Op.stringOp]⟩
   | exact h.elim
 ·rename_i n cells
  obtain ⟨ht, h⟩ := h
  simp only [AR, DR] at hx hy
  subst hy
  obtain ⟨a', c, rfl, hc, hl⟩ := hx
  simp only [Option.any_eq_true] at ht
  obtain ⟨yt, hyt, hk⟩ := ht
  have hu : ∃ e, P.underlying xT = some (.slice e) := by
   unfold Ty.at4 at hk
   split at hk
   ·rename_i e he; exact ⟨e, yf hT hyt he⟩
   ·simp at hk
  obtain ⟨e, hu⟩ := hu
  have hg : ∀ op, (eqGuard op xT x y (.slice a' n c) (.slice none 0 0)).run P w = .ok () w := by
   intro op; unfold eqGuard; cases op <;> simp
  have hn : cells ≠ [] → a' ≠ none := by
   intro hn e0
   subst e0
   rcases hl with rfl | ⟨_, _, h', _⟩
   ·exact hn rfl
   ·cases h'
  split at h
  ·cases a' with
   | none => exact ⟨_, _, h.1 (Classical.byContradiction fun c => hn c rfl), AR.bool _, by simp [hg, wb, n8 hu]⟩
   | some a' => exact ⟨_, _, h.2, AR.bool _, by simp [hg, wb, n8 hu]⟩
  ·cases a' with
   | none => exact ⟨_, _, h.1 (Classical.byContradiction fun c => hn c rfl), AR.bool _, by simp [hg, wc, n8 hu]⟩
   | some a' => exact ⟨_, _, h.2, AR.bool _, by simp [hg, wc, n8 hu]⟩
  ·exact h.elim
 ·exact h.elim
theorem aqx {op : UnOp} {a : A} {u : Value} (h : azf op a K) (hx : AR β S w a u) : qk P β S w (Op.unary op u) K := by
 unfold azf at h
 split at h
 all_goals first
  | (simp only [AR, DR] at hx; subst hx; obtain ⟨_, rfl, h⟩ := h; exact ⟨_, _, h, AR.int _ _, by simp [Op.unary, Op.intArith, Op.intBits]⟩)
  | (simp only [AR, DR] at hx; subst hx; exact ⟨_, _, h, AR.bool _, by simp [Op.unary]⟩)
  | exact h.elim
theorem c7 (hT : b6 P T) {t : Nat} {K : Nat → Ty → Prop} (h : bg T t K) : ∃ e ye, P.underlying t = some (.slice e) ∧ T e = some ye ∧ K e ye := by
 unfold bg at h
 split at h
 ·rename_i y hy
  split at h
  ·rename_i e he
   split at h
   ·rename_i ye hye
    exact ⟨e, ye, yf hT hy he, hye, h⟩
   ·exact h.elim
  ·exact h.elim
 ·exact h.elim
theorem my (hT : b6 P T) {t : Nat} {K : Nat → Nat → Ty → Prop} (h : ix T t K) : ∃ n e ye, P.underlying t = some (.array n e) ∧ T e = some ye ∧ K n e ye := by
 unfold ix at h
 split at h
 ·rename_i y hy
  split at h
  ·rename_i n e he
   split at h
   ·rename_i ye hye
    exact ⟨n, e, ye, ad9 hT hy he, hye, h⟩
   ·exact h.elim
  ·exact h.elim
 ·exact h.elim
theorem zy (hT : b6 P T) {t : Nat} {K : List (Nat × Nat × Bool) → Prop} (h : mz T t K) : ∃ l fs, P.underlying t = some (.struct fs) ∧ K l ∧
  ∀ {f o s : Nat} {g : Bool}, l[f]? = some (o, s, g) → ∃ F, fs[f]? = some F ∧ F.offset = o ∧ s ≠ 0 ∧ ∃ i d, P.info? F.type = some i ∧ P.underlying F.type = some d ∧ i.size = s ∧ kv d = g := by
 unfold mz at h
 split at h
 ·rename_i y hy
  split at h
  ·rename_i l hl
   obtain ⟨fs, h1, h2⟩ := alg hT hy hl
   exact ⟨l, fs, h1, h, h2⟩
  ·exact h.elim
 ·exact h.elim
theorem run_loadCellsFrom {a : Addr} : ∀ (n i : Nat) (acc : Array Value) (f : Nat → Value), (∀ j, j < n → w.cell? (a.add (i + j)) = some (f j)) →
  (loadCellsFrom a i n acc).run P w = .ok (acc ++ ((List.range n).map f).toArray) w
 | 0, i, acc, f, _ => by simp [loadCellsFrom]
 | n + 1, i, acc, f, h => by
  have h0 := h 0 (by omega)
  have ih := run_loadCellsFrom n (i + 1) (acc.push (f 0)) (fun j => f (j + 1)) (fun j hj => by
   have := h (j + 1) (by omega)
   rwa [show i + (j + 1) = i + 1 + j by omega] at this)
  simp only [Nat.add_zero] at h0
  simp only [loadCellsFrom, Sem.run_bind, run_load, h0, Result.andThen_ok]
  rw [ih]
  congr 1
  rw [List.range_succ_eq_map]
  simp [Function.comp_def]
theorem dx (k o n : Nat) : (⟨k, o, none⟩ : Addr).add n = ⟨k, o + n, none⟩ := by
 unfold Addr.add
 split
 ·subst_vars; simp
 ·simp
theorem jc {k : Nat} {C : Array Value} {T : TypeId} {fr : Nat × Nat} (h : w.heap[k]? = some (.cells C T fr)) (o : Nat) : w.cell? ⟨k, o, none⟩ = C[o]? := by
 simp [World.cell?, h]
theorem jh {α : Type} {l : List α} {o s j : Nat} {x : α} (h : ((l.drop o).take s)[j]? = some x) : l[o + j]? = some x ∧ j < s := by
 rw [List.getElem?_take] at h
 split at h
 ·rename_i hj
  exact ⟨by simpa using h, hj⟩
 ·simp at h
theorem abn (hT : b6 P T) {hp : Nat → Option (Bool × List A)} (hh : afe β S w hp) {t : Nat} {a : A} {u : Value} (h : vm T hp t a K) (hx : AR β S w a u) :
  qk P β S w (Instr.loadAt t u) K := by
 unfold vm at h
 split at h
 ·rename_i y hy
  have hagg := aqn hT hy w
  have hsz := ca hT hy w
  split at h
  ·rename_i b o
   simp only [AR] at hx
   obtain ⟨k, hk, rfl⟩ := hx
   split at h
   ·rename_i fr l hl
    obtain ⟨C, Tc, hC, hlen, hcells⟩ := hh b k _ _ hk hl
    split at h
    ·rename_i hg
     obtain ⟨xs, rfl, hxl, hK⟩ := h
     have hle : o + y.size ≤ l.length ∨ y.size = 0 := by
      simp at hxl; omega
     have hrun : (loadCells ⟨k, o, none⟩ y.size).run P w = .ok (((List.range y.size).map fun j => C.getD (o + j) undef).toArray) w := by
      have := run_loadCellsFrom (P := P) (w := w) (a := ⟨k, o, none⟩) y.size 0 #[] (fun j => C.getD (o + j) undef) (fun j hj => by
       rw [dx, jc hC]
       have : o + (0 + j) < C.size := by omega
       simp [show o + j < C.size by omega])
      simpa [loadCells] using this
     refine ⟨_, _, hK, aar (vs := ((List.range y.size).map fun j => C.getD (o + j) undef).toArray) ?_, ?_⟩
     ·refine wz (by simp only [hxl]; simp) fun j x u' hj hu => ?_
      obtain ⟨hj', hjs⟩ := jh hj
      obtain ⟨v', hv', hR⟩ := hcells _ _ hj'
      simp only [List.getElem?_map, List.getElem?_range hjs, Option.map_some, Option.some.injEq] at hu
      rw [← hu]
      simpa [Array.getD_eq_getD_getElem?, hv'] using hR
     ·simp only [Instr.loadAt, Instr.sureAddr, loadVar, pure_bind, Sem.run_bind, hagg, hg, Result.andThen_ok, if_true, hsz, hrun, Sem.run_pure]
    ·rename_i hg
     obtain ⟨x, hx, hK⟩ := h
     obtain ⟨v', hv', hR⟩ := hcells _ _ hx
     refine ⟨_, _, hK, hR, ?_⟩
     simp [Instr.loadAt, Instr.sureAddr, loadVar, hagg, hg, jc hC, hv']
   ·exact h.elim
  ·rename_i cells
   simp only [AR] at hx
   obtain ⟨k, o, rfl, hl⟩ := hx
   split at h
   ·rename_i hg
    obtain ⟨xs, rfl, hxl, hK⟩ := h
    have hle : y.size ≤ cells.length ∨ y.size = 0 := by
     simp at hxl; omega
    have hf : ∀ j, j < y.size → ∃ u x, cells[j]? = some x ∧ w.cell? ⟨k, o + j, none⟩ = some u ∧ DR S w x u := by
     intro j hj
     obtain ⟨x, hx⟩ : ∃ x, cells[j]? = some x := ⟨cells[j]'(by omega), by simp⟩
     obtain ⟨_, u, h1, h2⟩ := yj hl hx
     exact ⟨u, x, hx, h1, h2⟩
    have hrun : (loadCells ⟨k, o, none⟩ y.size).run P w = .ok (((List.range y.size).map fun j => (w.cell? ⟨k, o + j, none⟩).getD undef).toArray) w := by
     have := run_loadCellsFrom (P := P) (w := w) (a := ⟨k, o, none⟩) y.size 0 #[] (fun j => (w.cell? ⟨k, o + j, none⟩).getD undef) (fun j hj => by
      obtain ⟨u, x, h1, h2, h3⟩ := hf j hj
      rw [dx]
      simp [h2])
     simpa [loadCells] using this
    refine ⟨_, .agg ((List.range y.size).map fun j => (w.cell? ⟨k, o + j, none⟩).getD undef).toArray, hK, ?_, ?_⟩
    ·simp only [AR, DR]
     refine ⟨_, rfl, qj (by simp only [hxl]; simp) fun j x u' hj hu => ?_⟩
     rw [List.drop_zero, List.getElem?_take] at hj
     split at hj
     ·rename_i hjs
      obtain ⟨u, x', h1, h2, h3⟩ := hf j hjs
      rw [h1] at hj; cases hj
      simp only [List.getElem?_map, List.getElem?_range hjs, Option.map_some, Option.some.injEq, h2, Option.getD_some] at hu
      rwa [← hu]
     ·simp at hj
    ·simp only [Instr.loadAt, Instr.sureAddr, loadVar, pure_bind, Sem.run_bind, hagg, hg, Result.andThen_ok, if_true, hsz, hrun, Sem.run_pure]
   ·rename_i hg
    obtain ⟨x, hx, hK⟩ := h
    obtain ⟨_, u, h1, h2⟩ := yj hl hx
    refine ⟨_, u, hK, by simp only [AR]; exact h2, ?_⟩
    simp only [Nat.add_zero] at h1
    simp [Instr.loadAt, Instr.sureAddr, loadVar, hagg, hg, h1]
  ·exact h.elim
 ·exact h.elim
theorem ab6 {t : Nat} {i : TypeInfo} {d : TypeDesc} (hi : P.info? t = some i) (hd : P.underlying t = some d) (cs : Array Value) (off : Nat) :
  (part t cs off).run P w = if kv d then .ok (.agg (cs.extract off (off + i.size))) w else match cs[off]? with | some v => .ok v w | none => .halt (.stuck "part: no such cell") w := by
 have h1 : (isAgg t).run P w = .ok (kv d) w := by
  simp only [isAgg, Sem.run_bind, run_underlying hd, Result.andThen_ok]
  unfold kv; split <;> simp
 have h2 : (sizeOf t).run P w = .ok i.size w := by simp [sizeOf, typeInfo, hi]
 simp only [part, Sem.run_bind, h1, Result.andThen_ok]
 cases kv d
 ·simp only [Bool.false_eq_true, if_false]; cases cs[off]? <;> simp
 ·simp [h2]
theorem aby {t : Nat} {i : TypeInfo} {d : TypeDesc} (hi : P.info? t = some i) (hd : P.underlying t = some d) {g : Bool} {o s : Nat} (hg : kv d = g) (hs : i.size = s)
  {x : A} {u : Value} (h : aae g o s x K) (hx : AR β S w x u) : qk P β S w (do part t (← asAgg u) o) K := by
 unfold aae at h
 split at h
 ·rename_i l
  simp only [AR, DR] at hx
  obtain ⟨vs, rfl, hl⟩ := hx
  have hlen := cy hl
  split at h
  ·obtain ⟨xs, rfl, hxl, hK⟩ := h
   refine ⟨_, .agg (vs.extract o (o + s)), hK, ?_, by simp [asAgg, ab6 hi hd, hg, hs]⟩
   simp only [AR, DR]
   refine ⟨_, rfl, qj (by simp at hlen hxl ⊢; omega) fun j x u' hj hu => ?_⟩
   obtain ⟨hj', hjs⟩ := jh hj
   obtain ⟨v', hv', hR⟩ := ig hl hj'
   rw [Array.toList_extract] at hu
   have : vs.toList[o + j]? = some u' := by
    have := hu
    simp only [List.extract_eq_take_drop, show o + s - o = s by omega] at this
    exact (jh this).1
   rw [hv'] at this; cases this
   exact hR
  ·obtain ⟨x, hx, hK⟩ := h
   obtain ⟨v', hv', hR⟩ := ig hl hx
   refine ⟨_, v', hK, by simp only [AR]; exact hR, ?_⟩
   have : vs[o]? = some v' := by simpa using hv'
   simp [asAgg, ab6 hi hd, hg, this]
 ·rename_i l
  simp only [AR] at hx
  obtain ⟨vs, rfl, hl⟩ := hx
  have hlen := dj hl
  split at h
  ·obtain ⟨xs, rfl, hxl, hK⟩ := h
   refine ⟨_, .agg (vs.extract o (o + s)), hK, aar ?_, by simp [asAgg, ab6 hi hd, hg, hs]⟩
   refine wz (by simp at hlen hxl ⊢; omega) fun j x u' hj hu => ?_
   obtain ⟨hj', hjs⟩ := jh hj
   obtain ⟨v', hv', hR⟩ := l9 hl hj'
   rw [Array.toList_extract] at hu
   have : vs.toList[o + j]? = some u' := by
    have := hu
    simp only [List.extract_eq_take_drop, show o + s - o = s by omega] at this
    exact (jh this).1
   rw [hv'] at this; cases this
   exact hR
  ·obtain ⟨x, hx, hK⟩ := h
   obtain ⟨v', hv', hR⟩ := l9 hl hx
   refine ⟨_, v', hK, hR, ?_⟩
   have : vs[o]? = some v' := by simpa using hv'
   simp [asAgg, ab6 hi hd, hg, this]
 ·exact h.elim
theorem aht (hT : b6 P T) {s f : Nat} {x : A} {u : Value} (h : aeq T s x f K) (hx : AR β S w x u) : qk P β S w (Instr.field s u f) K := by
 obtain ⟨l, fs, hu, hk, hf⟩ := zy hT h
 split at hk
 ·rename_i off sz g hl
  obtain ⟨F, h1, h2, h3, i, d, hi, hd, hs, hg⟩ := hf hl
  obtain ⟨r, v, hK, hR, hrun⟩ := aby hi hd hg hs hk hx
  refine ⟨r, v, hK, hR, ?_⟩
  simp only [Instr.field, Sem.run_bind, run_underlying hu, Result.andThen_ok, h1, h2]
  simpa using hrun
 ·exact hk.elim
theorem abd (hT : b6 P T) {s f : Nat} {x : A} {u : Value} (h : ry T s x f K) (hx : AR β S w x u) : qk P β S w (Instr.fieldAt s u f) K := by
 obtain ⟨l, fs, hu, hk, hf⟩ := zy hT h
 split at hk
 ·rename_i off sz g hl
  obtain ⟨F, h1, h2, h3, i, d, hi, hd, hs, hg⟩ := hf hl
  have hsz : (sizeOf F.type).run P w = .ok sz w := by simp [sizeOf, typeInfo, hi, hs]
  have hrun : ∀ a : Addr, (Instr.fieldAt s (.pointer (some a)) f).run P w = .ok (.pointer (some (a.add off))) w := by
   intro a
   simp [Instr.fieldAt, run_underlying hu, h1, Instr.sureAddr, fieldPlace, hsz, h3, h2]
  split at hk
  ·rename_i b o
   simp only [AR] at hx
   obtain ⟨k, hk', rfl⟩ := hx
   exact ⟨_, _, hk, by simp only [AR]; exact ⟨k, hk', rfl⟩, by rw [hrun, dx]⟩
  ·rename_i cells
   simp only [AR] at hx
   obtain ⟨k, o, rfl, hl⟩ := hx
   exact ⟨_, _, hk, by simp only [AR]; exact ⟨k, o + off, rfl, s8 hl off⟩, by rw [hrun, dx]⟩
  ·exact hk.elim
 ·exact hk.elim
theorem rh {t n e : Nat} {ye : Ty} (hT : b6 P T) (hu : P.underlying t = some (.array n e)) (hye : T e = some ye) (a : Addr) (k : IntKind) {i : Int} (hi : 0 ≤ i ∧ i < n) :
  (Instr.indexAt t (.pointer (some a)) (.int k i)).run P w = .ok (.pointer (some (a.add (i.toNat * ye.size)))) w := by
 simp [Instr.indexAt, run_underlying hu, asIntOf, Instr.sureAddr, hi, ca hT hye]
theorem ri {t e : Nat} {ye : Ty} (hT : b6 P T) (hu : P.underlying t = some (.slice e)) (hye : T e = some ye) (a : Addr) (n c : Nat) (k : IntKind) {i : Int} (hi : 0 ≤ i ∧ i < n) :
  (Instr.indexAt t (.slice (some a) n c) (.int k i)).run P w = .ok (.pointer (some (a.add (i.toNat * ye.size)))) w := by
 simp [Instr.indexAt, run_underlying hu, asIntOf, Instr.sureAddr, hi, ca hT hye]
theorem abi (hT : b6 P T) {t : Nat} {x i : A} {u v : Value} (h : oi T t x i K) (hx : AR β S w x u) (hi : AR β S w i v) : qk P β S w (Instr.indexAt t u v) K := by
 unfold oi at h
 split at h
 ·rename_i ki i
  simp only [AR, DR] at hi
  subst hi
  split at h
  ·rename_i n cells
   obtain ⟨e, ye, hu, hye, ⟨h1, h2⟩, h3⟩ := c7 hT h
   simp only [AR, DR] at hx
   obtain ⟨a, c, rfl, hc, hl⟩ := hx
   rcases hl with rfl | ⟨b, o, rfl, hl⟩
   ·simp at h2
   ·exact ⟨_, _, h3, by simp only [AR]; exact ⟨b, _, rfl, s8 hl _⟩, by rw [ri hT hu hye _ _ _ _ h1, dx]⟩
  ·rename_i b o n sz
   obtain ⟨e, ye, hu, hye, hsz, h1, h3⟩ := c7 hT h
   simp only [AR] at hx
   rcases hx with ⟨k, hk, c, C, Tc, fr, rfl, hc, hC, hl⟩ | ⟨rfl, _⟩
   ·exact ⟨_, _, h3, by simp only [AR]; exact ⟨k, hk, rfl⟩, by rw [ri hT hu hye _ _ _ _ h1, dx]⟩
   ·omega
  ·rename_i b o
   obtain ⟨n, e, ye, hu, hye, h1, h3⟩ := my hT h
   simp only [AR] at hx
   obtain ⟨k, hk, rfl⟩ := hx
   exact ⟨_, _, h3, by simp only [AR]; exact ⟨k, hk, rfl⟩, by rw [rh hT hu hye _ _ h1, dx]⟩
  ·rename_i cells
   obtain ⟨n, e, ye, hu, hye, h1, h3⟩ := my hT h
   simp only [AR] at hx
   obtain ⟨k, o, rfl, hl⟩ := hx
   exact ⟨_, _, h3, by simp only [AR]; exact ⟨k, _, rfl, s8 hl _⟩, by rw [rh hT hu hye _ _ h1, dx]⟩
  ·exact h.elim
 ·exact h.elim
theorem ahu (hT : b6 P T) {t : Nat} {x i : A} {u v : Value} (h : abj T t x i K) (hx : AR β S w x u) (hi : AR β S w i v) : qk P β S w (Instr.index t u v) K := by
 unfold abj at h
 split at h
 ·rename_i ki i
  simp only [AR, DR] at hi
  subst hi
  split at h
  ·rename_i s
   obtain ⟨ht, h1, z, rfl, h2⟩ := h
   simp only [AR, DR] at hx
   subst hx
   simp only [Option.any_eq_true, decide_eq_true_eq] at ht
   obtain ⟨yt, hyt, hk⟩ := ht
   have hu := uu hT hyt hk
   refine ⟨_, _, h2, AR.int _ _, ?_⟩
   have hlt : i.toNat < s.data.toList.length := by
    have : s.data.toList.length = s.size := by simp
    omega
   have hg := akq (d := (0 : UInt8)) hlt
   have hs : s[i.toNat]? = some (nth 0 s.data.toList i.toNat) := by
    have h3 : i.toNat < s.size := by simpa using hlt
    rw [getElem?_pos s i.toNat h3]
    have h4 : s.data.toList[i.toNat]? = some s[i.toNat] := by
     rw [List.getElem?_eq_getElem hlt]; rfl
    rw [h4] at hg
    exact hg
   simp [Instr.index, asIntOf, run_underlying hu, h1.1, hs]
  ·rename_i x hxs
   obtain ⟨n, e, ye, hu, hye, h1, h3⟩ := my hT h
   obtain ⟨ie, de, hie, hde, hs, _, hag, _⟩ := Ty.info hT hye
   obtain ⟨r, v', hK, hR, hrun⟩ := aby hie hde hag hs h3 hx
   refine ⟨r, v', hK, hR, ?_⟩
   have hcs : ∃ cs, u = .agg cs := by
    unfold aae at h3
    split at h3
    ·simp only [AR, DR] at hx; obtain ⟨vs, rfl, _⟩ := hx; exact ⟨_, rfl⟩
    ·simp only [AR] at hx; obtain ⟨vs, rfl, _⟩ := hx; exact ⟨_, rfl⟩
    ·exact h3.elim
   obtain ⟨cs, rfl⟩ := hcs
   simp only [asAgg, pure_bind] at hrun
   simp [Instr.index, asIntOf, run_underlying hu, h1, ca hT hye, hrun]
 ·exact h.elim
theorem aj2 (hT : b6 P T) {s d : Nat} {x : A} {u : Value} (h : afq T s d x K) (hx : AR β S w x u) : qk P β S w (convert s d u) K := by
 unfold afq at h
 split at h
 ·rename_i k n
  obtain ⟨hs, h⟩ := h
  simp only [AR, DR] at hx
  subst hx
  obtain ⟨ys, hys⟩ := Option.isSome_iff_exists.mp hs
  obtain ⟨is, ds, _, hds, _⟩ := Ty.info hT hys
  split at h
  ·rename_i y hy
   split at h
   ·rename_i k' hk
    obtain ⟨_, rfl, h⟩ := h
    exact ⟨_, _, h, AR.int _ _, by simp [convert, run_underlying hds, run_underlying (au6 hT hy hk), Conv.intToInt]⟩
   ·exact h.elim
  ·exact h.elim
 ·rename_i s'
  obtain ⟨h1, h2, h3⟩ := h
  simp only [AR, DR] at hx
  subst hx
  simp only [Option.any_eq_true, decide_eq_true_eq] at h1 h2
  obtain ⟨y1, hy1, hk1⟩ := h1
  obtain ⟨y2, hy2, hk2⟩ := h2
  exact ⟨_, _, h3, AR.str _, by simp [convert, run_underlying (uu hT hy1 hk1), run_underlying (uu hT hy2 hk2)]⟩
 ·exact h.elim
theorem A.afp {x : A} {u : Value} (h : AR β S w x u) (hx : x.full = true) : ARs β S w x.cells u.cells.toList := by
 cases x with
 | d y =>
  cases y with
  | any => simp [A.full] at hx
  | tup _ => simp [A.full] at hx
  | fnd _ _ => simp [A.full] at hx
  | ptrd c =>
   have h0 := h
   simp only [AR, DR] at h
   obtain ⟨k, o, rfl, _⟩ := h
   simp only [A.cells, ARs]
   exact ⟨_, [], rfl, h0, rfl⟩
  | agg l =>
   simp only [AR, DR] at h
   obtain ⟨vs, rfl, h⟩ := h
   exact aon h
  | raw v =>
   have h0 := h
   simp only [AR, DR] at h
   subst h
   have : u.cells = #[u] := by cases u <;> first | rfl | simp [A.full, Value.oneCell'] at hx
   rw [this]
   simp only [A.cells, ARs]
   exact ⟨u, [], rfl, h0, rfl⟩
  | slice n l =>
   have h0 := h
   simp only [AR, DR] at h
   obtain ⟨a, c, rfl, _⟩ := h
   simp only [A.cells, ARs]
   exact ⟨_, [], rfl, h0, rfl⟩
  | _ =>
   have h0 := h
   simp only [AR, DR] at h
   subst h
   simp only [A.cells, ARs]
   exact ⟨_, [], rfl, h0, rfl⟩
 | fn f l => simp [A.full] at hx
 | ptr b o =>
  have h0 := h
  simp only [AR] at h
  obtain ⟨k, _, rfl⟩ := h
  simp only [A.cells, ARs]
  exact ⟨_, [], rfl, h0, rfl⟩
 | elem c =>
  have h0 := h
  simp only [AR] at h
  obtain ⟨k, o, rfl, _⟩ := h
  simp only [A.cells, ARs]
  exact ⟨_, [], rfl, h0, rfl⟩
 | own b o n sz =>
  have h0 := h
  simp only [AR] at h
  have : u.cells = #[u] := by
   rcases h with ⟨k, _, c, C, T, fr, rfl, _⟩ | ⟨_, _, a, rfl⟩ <;> rfl
  rw [this]
  simp only [A.cells, ARs]
  exact ⟨_, [], rfl, h0, rfl⟩
 | agg l =>
  simp only [AR] at h
  obtain ⟨vs, rfl, h⟩ := h
  exact h
theorem getElem?_setAt {α : Type} : ∀ (xs l : List α) (o j : Nat), o + xs.length ≤ l.length → (setAt l o xs)[j]? = if o ≤ j ∧ j < o + xs.length then xs[j - o]? else l[j]?
 | [], l, o, j, _ => by simp only [setAt, List.length_nil]; rw [if_neg (by omega)]
 | x :: xs, l, o, j, h => by
  simp only [List.length_cons] at h
  simp only [setAt]
  rw [getElem?_setAt xs (l.set o x) (o + 1) j (by simp; omega)]
  by_cases h1 : o + 1 ≤ j ∧ j < o + 1 + xs.length
  ·rw [if_pos h1, if_pos (by simp; omega), show j - o = (j - (o + 1)) + 1 by omega]
   simp
  ·rw [if_neg h1, List.getElem?_set]
   by_cases h2 : o = j
   ·subst h2
    simp only [if_true]
    rw [if_pos (by omega), if_pos (by simp)]
    simp
   ·rw [if_neg h2, if_neg (by simp; omega)]
theorem atc {l xs : List A} {vs us : List Value} {o : Nat} (h : ARs β S w l vs) (hx : ARs β S w xs us) (ho : o + xs.length ≤ l.length) : ARs β S w (setAt l o xs) (setAt vs o us) := by
 have e1 := dj h
 have e2 := dj hx
 refine wz (by simp [ml, e1]) fun j x u hj hu => ?_
 rw [getElem?_setAt _ _ _ _ ho] at hj
 rw [getElem?_setAt _ _ _ _ (by omega), e2] at hu
 split at hj
 ·rename_i hc
  rw [if_pos hc] at hu
  obtain ⟨u', hu', hR⟩ := l9 hx hj
  rw [hu] at hu'; cases hu'; exact hR
 ·rename_i hc
  rw [if_neg hc] at hu
  obtain ⟨u', hu', hR⟩ := l9 h hj
  rw [hu] at hu'; cases hu'; exact hR
theorem af4 : ∀ (us : List Value) (n off : Nat) (cs : Array Value), ((us.zipIdx n).foldl (fun (cs : Array Value) (c, j) => cs.setIfInBounds (off + j) c) cs).toList = setAt cs.toList (off + n) us
 | [], n, off, cs => by simp [setAt]
 | u :: us, n, off, cs => by
  simp only [List.zipIdx_cons, List.foldl_cons, setAt]
  rw [af4 us (n + 1) off]
  simp [Nat.add_assoc]
theorem uw (z : List ZK) : ARs β S w (nc z) (z.map ZK.val) :=
 wz (by simp [nc]) fun j x u hj hu => by
  simp only [nc, List.getElem?_map, Option.map_eq_some_iff] at hj hu
  obtain ⟨a, ha, rfl⟩ := hj
  obtain ⟨b, hb, rfl⟩ := hu
  rw [ha] at hb; cases hb
  simp only [AR]; exact ZK.a1x a
inductive ql (β : Own) (S : Imm) (w : World) : List (Nat × A) → List (Nat × Value) → Prop
 | nil : ql β S w [] []
 | cons {i : Nat} {x : A} {v : Value} {l : List (Nat × A)} {l' : List (Nat × Value)} (h : AR β S w x v) (t : ql β S w l l') : ql β S w ((i, x) :: l) ((i, v) :: l')
theorem r7 {place : Nat → Option (Nat × Nat)} : ∀ {parts : List (Nat × A)} {vparts : List (Nat × Value)} {cells : List A} {vcells : Array Value} {K : List A → Prop},
  abe place cells parts K → ql β S w parts vparts → ARs β S w cells vcells.toList → ∃ c vc, K c ∧ ARs β S w c vc.toList ∧ Instr.fill place vcells vparts = some vc
 | [], vparts, cells, vcells, K, h, hp, hc => by
  cases hp
  exact ⟨cells, vcells, h, hc, by simp [Instr.fill]⟩
 | (i, x) :: rest, vparts, cells, vcells, K, h, hp, hc => by
  cases hp with
  | cons hx ht =>
   rename_i v l'
   simp only [abe] at h
   split at h
   ·exact h.elim
   ·rename_i off size hpl
    obtain ⟨hf, hl, ho, h⟩ := h
    rw [je] at h
    have hcx := A.afp hx hf
    have e1 := dj hcx
    have e2 := dj hc
    have e3 := af4 v.cells.toList 0 off vcells
    have hzip : (v.cells.zipIdx.foldl (fun cs (c, j) => cs.setIfInBounds (off + j) c) vcells).toList = setAt vcells.toList off v.cells.toList := by
     have e4 : v.cells.zipIdx.foldl (fun cs (c, j) => cs.setIfInBounds (off + j) c) vcells = (v.cells.toList.zipIdx).foldl (fun cs (c, j) => cs.setIfInBounds (off + j) c) vcells := by
      rw [← Array.foldl_toList]; simp
     rw [e4]
     simpa using e3
    obtain ⟨c, vc, hK, hR, hfill⟩ := r7 h ht (vcells := v.cells.zipIdx.foldl (fun cs (c, j) => cs.setIfInBounds (off + j) c) vcells) (by
     rw [hzip]
     exact atc hc hcx (by rw [hl]; exact ho))
    refine ⟨c, vc, hK, hR, ?_⟩
    simp only [Instr.fill, hpl]
    rw [if_neg]
    ·exact hfill
    ·have e5 : v.cells.size = size := by simpa [hl] using e1
     have e6 : vcells.size = cells.length := by simpa using e2
     simp [e5, e6]; omega
theorem wk : ∀ (fs : List Field), (∀ F ∈ fs, ∃ i, P.info? F.type = some i) →
  (∃ ps : List (Nat × Nat), (fs.mapM fun f => (do pure (f.offset, ← sizeOf f.type) : Sem (Nat × Nat))).run P w = .ok ps w ∧ ps = fs.map fun f => (f.offset, P.cellsOf f.type))
 | [], _ => ⟨[], by simp, rfl⟩
 | F :: fs, h => by
  obtain ⟨ps, h1, h2⟩ := wk fs fun F hF => h F (by simp [hF])
  obtain ⟨i, hi⟩ := h F (by simp)
  refine ⟨(F.offset, P.cellsOf F.type) :: ps, ?_, by simp [h2]⟩
  simp [sizeOf, typeInfo, hi, h1, Program.cellsOf] at h1 ⊢
  simp [h1]
end
end Go.Ev

namespace Go.Ev
open Go
section
variable {P : Program} {T : Tab} {β : Own} {S : Imm} {w : World} {K : A → Prop}
theorem xk : ∀ {l : List (Nat × Nat × Bool)} {fs : List Field}, ed P l fs = true → l.length = fs.length ∧ (∀ F ∈ fs, ∃ i, P.info? F.type = some i) ∧
  ∀ j : Nat, (fs.map fun f => (f.offset, P.cellsOf f.type))[j]? = (l[j]?).map fun x => (x.1, x.2.1)
 | [], [], _ => ⟨rfl, by simp, by simp⟩
 | (o', s', g') :: l, F :: fs, hc => by
  simp only [ed, Bool.and_eq_true, beq_iff_eq] at hc
  obtain ⟨⟨⟨h1, h2⟩, h3⟩, h4⟩ := hc
  obtain ⟨e1, e2, e3⟩ := xk h4
  split at h3
  ·rename_i i d hi hd
   simp at h3
   refine ⟨by simp [e1], fun F' hF => ?_, fun j => ?_⟩
   ·rcases List.mem_cons.1 hF with rfl | hF
    ·exact ⟨i, hi⟩
    ·exact e2 _ hF
   ·cases j with
    | zero => simp [Program.cellsOf, hi, h1, h3.1]
    | succ j => simpa using e3 j
  ·simp at h3
 | [], _ :: _, h => by simp [ed] at h
 | _ :: _, [], h => by simp [ed] at h
theorem ahp (hT : b6 P T) {t : Nat} {parts : List (Nat × A)} {vparts : Array (Nat × Value)} (h : aaz T t parts K) (hp : ql β S w parts vparts.toList) :
  qk P β S w (Instr.build t vparts) K := by
 unfold aaz at h
 split at h
 ·rename_i y hy
  obtain ⟨hz0, h⟩ := h
  have hz : y.zero ≠ [] := by
   intro e; rw [e] at hz0; simp at hz0
  obtain ⟨z, hrz, hzc⟩ := um hT hy w hz
  split at h
  ·rename_i l hl
   obtain ⟨i, d, hi, hd, _, _, _, hc, _⟩ := Ty.info hT hy
   rw [hl] at hc
   have key : ∃ fs, d = .struct fs ∧ ed P l fs.toList = true := by
    cases d <;> first | (simp [TK.chk] at hc; done) | exact ⟨_, rfl, by simpa [TK.chk] using hc⟩
   obtain ⟨fs, rfl, hc⟩ := key
   obtain ⟨_, hinfo, hpl⟩ := xk hc
   obtain ⟨ps, hrun, hps⟩ := wk (P := P) (w := w) fs.toList hinfo
   obtain ⟨c, vc, hK, hR, hfill⟩ := r7 h hp (vcells := z.cells) (by rw [hzc]; exact uw y.zero)
   refine ⟨_, .agg vc, hK, aar hR, ?_⟩
   have hrun' : (fs.mapM fun f => (do pure (f.offset, ← sizeOf f.type) : Sem (Nat × Nat))).run P w = .ok ps.toArray w := by
    rw [Array.mapM_eq_mapM_toList]
    simp only [Sem.run_map, hrun, Result.andThen_ok]
   have hfill' : Instr.fill (ps.toArray[·]?) z.cells vparts.toList = some vc := by
    rw [← hfill]
    congr 1
    funext j
    simp only [List.getElem?_toArray, hps, hpl]
   simp only [Instr.build, Sem.run_bind, hrz, Result.andThen_ok, run_underlying hd]
   simp only [Sem.run_bind, hrun', Result.andThen_ok, hfill', Sem.run_pure]
  ·rename_i n e he
   split at h
   ·rename_i ye hye
    obtain ⟨c, vc, hK, hR, hfill⟩ := r7 h hp (vcells := z.cells) (by rw [hzc]; exact uw y.zero)
    refine ⟨_, .agg vc, hK, aar hR, ?_⟩
    simp only [Instr.build, Sem.run_bind, hrz, Result.andThen_ok, run_underlying (ad9 hT hy he), ca hT hye, hfill, Sem.run_pure]
   ·exact h.elim
  ·exact h.elim
 ·exact h.elim
def ahn (β : Own) (S : Imm) (w : World) : Option A → Option Value → Prop
 | none, none => True
 | some x, some v => AR β S w x v
 | _, _ => False
theorem fe {x : Option A} {v : Option Value} {d : Int} {K : Int → Prop} (h : k9 x d K) (hx : ahn β S w x v) :
  (v = none ∧ K d) ∨ ∃ k i, v = some (.int k i) ∧ K i := by
 unfold k9 at h
 split at h
 ·cases v
  ·exact .inl ⟨rfl, h⟩
  ·exact hx.elim
 ·rename_i k i
  cases v with
  | none => exact hx.elim
  | some v =>
   simp only [ahn, AR, DR] at hx
   subst hx
   exact .inr ⟨k, i, rfl, h⟩
 ·exact h.elim
theorem gy {b : Bool} {n c : Nat} {lo hi : Option Value} {l h : Int}
  (hlo : (lo = none ∧ l = 0) ∨ ∃ k, lo = some (.int k l)) (hhi : (hi = none ∧ h = n) ∨ ∃ k, hi = some (.int k h)) (h0 : 0 ≤ l) (h1 : l ≤ h) (h2 : h ≤ n) (hc : n ≤ c) :
  (Instr.sliceBounds b n c lo hi none).run P w = .ok (l.toNat, h.toNat, c) w := by
 have e1 : (h.toNat : Int) = h := Int.toNat_of_nonneg (by omega)
 have b1 : 0 ≤ h := by omega
 have b2 : h ≤ (c : Int) := by omega
 rcases hlo with ⟨rfl, rfl⟩ | ⟨kl, rfl⟩ <;> rcases hhi with ⟨rfl, rfl⟩ | ⟨kh, rfl⟩
 ·simp [Instr.sliceBounds]
 ·simp [Instr.sliceBounds, run_sliceBound, b1, b2]
 ·simp [Instr.sliceBounds, run_sliceBound, h0, h1]
 ·simp [Instr.sliceBounds, run_sliceBound, h0, b1, b2, e1, h1]
theorem ahx (hT : b6 P T) {hp : Nat → Option (Bool × List A)} (hh : afe β S w hp) {t : Nat} {x : A} {lo hi mx : Option A} {u : Value} {vlo vhi vmx : Option Value} (h : sj T hp t x lo hi mx K)
  (hx : AR β S w x u) (hlo : ahn β S w lo vlo) (hhi : ahn β S w hi vhi) (hmx : ahn β S w mx vmx) : qk P β S w (Instr.sliceAt t u vlo vhi vmx) K := by
 unfold sj at h
 split at h
 ·exact h.elim
 ·have : vmx = none := by cases vmx with | none => rfl | some _ => exact hmx.elim
  subst this
  split at h
  ·rename_i s
   obtain ⟨ht, h⟩ := h
   simp only [Option.any_eq_true, decide_eq_true_eq] at ht
   obtain ⟨yt, hyt, hk⟩ := ht
   have hu := uu hT hyt hk
   simp only [AR, DR] at hx
   subst hx
   have key : ∃ l h : Int, ((vlo = none ∧ l = 0) ∨ ∃ k, vlo = some (.int k l)) ∧ ((vhi = none ∧ h = s.size) ∨ ∃ k, vhi = some (.int k h)) ∧ (0 ≤ l ∧ l ≤ h ∧ h ≤ s.size) ∧ K (.d (.str (s.extract l.toNat h.toNat))) := by
    rcases fe h hlo with ⟨h1, h⟩ | ⟨k1, i1, h1, h⟩ <;> rcases fe h hhi with ⟨h2, h⟩ | ⟨k2, i2, h2, h⟩
    ·exact ⟨_, _, .inl ⟨h1, rfl⟩, .inl ⟨h2, rfl⟩, h.c, h.k⟩
    ·exact ⟨_, _, .inl ⟨h1, rfl⟩, .inr ⟨_, h2⟩, h.c, h.k⟩
    ·exact ⟨_, _, .inr ⟨_, h1⟩, .inl ⟨h2, rfl⟩, h.c, h.k⟩
    ·exact ⟨_, _, .inr ⟨_, h1⟩, .inr ⟨_, h2⟩, h.c, h.k⟩
   obtain ⟨l, hh, e1, e2, ⟨b0, b1, b2⟩, hK⟩ := key
   refine ⟨_, _, hK, AR.str _, ?_⟩
   simp [Instr.sliceAt, Instr.slice, run_underlying hu, gy e1 e2 b0 b1 b2 (Nat.le_refl _)]
  ·rename_i n cells
   obtain ⟨e, ye, hu, hye, h⟩ := c7 hT h
   simp only [AR, DR] at hx
   obtain ⟨a, c, rfl, hc, hl⟩ := hx
   have key : ∃ l h : Int, ((vlo = none ∧ l = 0) ∨ ∃ k, vlo = some (.int k l)) ∧ ((vhi = none ∧ h = n) ∨ ∃ k, vhi = some (.int k h)) ∧ (0 ≤ l ∧ l ≤ h ∧ h ≤ n) ∧ EqE (.slice (h - l).toNat ((cells.drop (l.toNat * ye.size)).take ((h - l).toNat * ye.size))) fun y => K (.d y) := by
    rcases fe h hlo with ⟨h1, h⟩ | ⟨k1, i1, h1, h⟩ <;> rcases fe h hhi with ⟨h2, h⟩ | ⟨k2, i2, h2, h⟩
    ·exact ⟨_, _, .inl ⟨h1, rfl⟩, .inl ⟨h2, rfl⟩, h.c, h.k⟩
    ·exact ⟨_, _, .inl ⟨h1, rfl⟩, .inr ⟨_, h2⟩, h.c, h.k⟩
    ·exact ⟨_, _, .inr ⟨_, h1⟩, .inl ⟨h2, rfl⟩, h.c, h.k⟩
    ·exact ⟨_, _, .inr ⟨_, h1⟩, .inr ⟨_, h2⟩, h.c, h.k⟩
   obtain ⟨l, hh, e1, e2, ⟨b0, b1, b2⟩, _, rfl, hK⟩ := key
   refine ⟨_, .slice (if c = l.toNat then a else a.map (·.add (l.toNat * ye.size))) (hh.toNat - l.toNat) (c - l.toNat), hK, ?_, ?_⟩
   ·simp only [AR, DR]
    refine ⟨_, _, by rw [show (hh - l).toNat = hh.toNat - l.toNat by omega], by omega, ?_⟩
    rcases hl with rfl | ⟨b, o, rfl, hl⟩
    ·exact .inl (by simp)
    ·by_cases hcl : c = l.toNat
     ·refine .inl ?_
      have : (hh - l).toNat = 0 := by omega
      rw [this]; simp
     ·refine .inr ⟨b, o + l.toNat * ye.size, ?_, alr (s8 hl _) _⟩
      rw [if_neg hcl]
      simp [dx]
   ·simp [Instr.sliceAt, Instr.slice, run_underlying hu, gy e1 e2 b0 b1 b2 hc, ca hT hye]
  ·rename_i b o n sz
   obtain ⟨e, ye, hu, hye, hsz, h⟩ := c7 hT h
   have key : ∃ l h : Int, ((vlo = none ∧ l = 0) ∨ ∃ k, vlo = some (.int k l)) ∧ ((vhi = none ∧ h = n) ∨ ∃ k, vhi = some (.int k h)) ∧ (0 ≤ l ∧ l ≤ h ∧ h ≤ n) ∧ K (.own b (o + l.toNat * ye.size) (h - l).toNat sz) := by
    rcases fe h hlo with ⟨h1, h⟩ | ⟨k1, i1, h1, h⟩ <;> rcases fe h hhi with ⟨h2, h⟩ | ⟨k2, i2, h2, h⟩
    ·exact ⟨_, _, .inl ⟨h1, rfl⟩, .inl ⟨h2, rfl⟩, h.c, h.k⟩
    ·exact ⟨_, _, .inl ⟨h1, rfl⟩, .inr ⟨_, h2⟩, h.c, h.k⟩
    ·exact ⟨_, _, .inr ⟨_, h1⟩, .inl ⟨h2, rfl⟩, h.c, h.k⟩
    ·exact ⟨_, _, .inr ⟨_, h1⟩, .inr ⟨_, h2⟩, h.c, h.k⟩
   obtain ⟨l, hh, e1, e2, ⟨b0, b1, b2⟩, hK⟩ := key
   simp only [AR] at hx
   rcases hx with ⟨k, hk, c, C, Tc, fr, rfl, hc, hC, hl⟩ | ⟨rfl, hbn, a, rfl⟩
   ·refine ⟨_, .slice (if c = l.toNat then some ⟨k, o, none⟩ else some ⟨k, o + l.toNat * ye.size, none⟩) (hh.toNat - l.toNat) (c - l.toNat), hK, ?_, ?_⟩
    ·simp only [AR]
     by_cases hcl : c = l.toNat
     ·exact .inr ⟨by omega, by rw [hk]; simp, some ⟨k, o, none⟩, by rw [if_pos hcl, show hh.toNat - l.toNat = 0 by omega, show c - l.toNat = 0 by omega]⟩
     ·refine .inl ⟨k, hk, c - l.toNat, C, Tc, fr, by rw [if_neg hcl, show (hh - l).toNat = hh.toNat - l.toNat by omega], by omega, hC, ?_⟩
      rw [hsz, Nat.sub_mul]
      have : l.toNat * ye.size ≤ c * ye.size := Nat.mul_le_mul_right _ (by omega)
      rw [hsz] at hl
      omega
    ·simp [Instr.sliceAt, Instr.slice, run_underlying hu, gy e1 e2 b0 b1 b2 hc, ca hT hye, dx]
   ·refine ⟨_, .slice a 0 0, hK, ?_, ?_⟩
    ·simp only [AR]
     exact .inr ⟨by omega, hbn, a, by rfl⟩
    ·have e3 : l = 0 := by omega
     have e4 : hh = 0 := by omega
     subst e3 e4
     simp [Instr.sliceAt, Instr.slice, run_underlying hu, gy e1 e2 b0 b1 b2 (Nat.le_refl 0), ca hT hye]
  ·rename_i b o
   simp only [AR] at hx
   obtain ⟨k, hk, rfl⟩ := hx
   split at h
   ·rename_i fr cells hcells
    obtain ⟨C, Tc, hC, hlen, _⟩ := hh b k _ _ hk hcells
    obtain ⟨n, e, ye, hu, hye, hn, h⟩ := my hT h
    have key : ∃ l h : Int, ((vlo = none ∧ l = 0) ∨ ∃ k, vlo = some (.int k l)) ∧ ((vhi = none ∧ h = n) ∨ ∃ k, vhi = some (.int k h)) ∧ (0 ≤ l ∧ l ≤ h ∧ h ≤ n) ∧ K (.own b (o + l.toNat * ye.size) (h - l).toNat ye.size) := by
     rcases fe h hlo with ⟨h1, h⟩ | ⟨k1, i1, h1, h⟩ <;> rcases fe h hhi with ⟨h2, h⟩ | ⟨k2, i2, h2, h⟩
     ·exact ⟨_, _, .inl ⟨h1, rfl⟩, .inl ⟨h2, rfl⟩, h.c, h.k⟩
     ·exact ⟨_, _, .inl ⟨h1, rfl⟩, .inr ⟨_, h2⟩, h.c, h.k⟩
     ·exact ⟨_, _, .inr ⟨_, h1⟩, .inl ⟨h2, rfl⟩, h.c, h.k⟩
     ·exact ⟨_, _, .inr ⟨_, h1⟩, .inr ⟨_, h2⟩, h.c, h.k⟩
    obtain ⟨l, hh', e1, e2, ⟨b0, b1, b2⟩, hK⟩ := key
    refine ⟨_, .slice (if n = l.toNat then some ⟨k, o, none⟩ else some ⟨k, o + l.toNat * ye.size, none⟩) (hh'.toNat - l.toNat) (n - l.toNat), hK, ?_, ?_⟩
    ·simp only [AR]
     by_cases hcl : n = l.toNat
     ·exact .inr ⟨by omega, by rw [hk]; simp, some ⟨k, o, none⟩, by rw [if_pos hcl, show hh'.toNat - l.toNat = 0 by omega, show n - l.toNat = 0 by omega]⟩
     ·refine .inl ⟨k, hk, n - l.toNat, C, Tc, _, by rw [if_neg hcl, show (hh' - l).toNat = hh'.toNat - l.toNat by omega], by omega, hC, ?_⟩
      rw [Nat.sub_mul]
      have : l.toNat * ye.size ≤ n * ye.size := Nat.mul_le_mul_right _ (by omega)
      omega
    ·simp only [Instr.sliceAt, Sem.run_bind, run_underlying hu, Result.andThen_ok, Instr.sureAddr, Sem.run_pure, gy e1 e2 b0 b1 b2 (Nat.le_refl _), ca hT hye, dx]
     congr 2
     split <;> rfl
   ·exact h.elim
  ·exact h.elim
theorem amp (hT : b6 P T) {t ty : Nat} {x : A} {u : Value} (h : amo T t x K) (hx : AR β S w x u) : qk P β S w (Builtin.len_ #[t] ty #[u]) K := by
 unfold amo at h
 split at h
 ·obtain ⟨e, ye, hu, hye, h⟩ := c7 hT h
  simp only [AR, DR] at hx
  obtain ⟨a, c, rfl, hc, hl⟩ := hx
  exact ⟨_, _, h, AR.int _ _, by simp [Builtin.len_, run_underlying hu, goInt]⟩
 ·obtain ⟨e, ye, hu, hye, h⟩ := c7 hT h
  simp only [AR, DR] at hx
  subst hx
  exact ⟨_, _, h, AR.int _ _, by simp [Builtin.len_, run_underlying hu, goInt]⟩
 ·obtain ⟨e, ye, hu, hye, h⟩ := c7 hT h
  simp only [AR] at hx
  rcases hx with ⟨k, hk, c, C, Tc, fr, rfl, hc, hC, hl⟩ | ⟨rfl, hbn, a, rfl⟩ <;>
   exact ⟨_, _, h, AR.int _ _, by simp [Builtin.len_, run_underlying hu, goInt]⟩
 ·obtain ⟨ht, h⟩ := h
  simp only [Option.any_eq_true, decide_eq_true_eq] at ht
  obtain ⟨yt, hyt, hk⟩ := ht
  simp only [AR, DR] at hx
  subst hx
  exact ⟨_, _, h, AR.int _ _, by simp [Builtin.len_, run_underlying (uu hT hyt hk), goInt]⟩
 ·obtain ⟨n, e, ye, hu, hye, h⟩ := my hT h
  exact ⟨_, _, h, AR.int _ _, by simp [Builtin.len_, run_underlying hu, goInt]⟩
theorem ady {b : Bool} {xs : List A} {vs : List Value} {at_ : Array TypeId} {ty : Nat} (h : ait b xs K) (hx : ARs β S w xs vs) :
  qk P β S w (if b then Builtin.max_ at_ ty vs.toArray else Builtin.min_ at_ ty vs.toArray) K := by
 unfold ait at h
 split at h
 ·simp only [ARs, AR, DR] at hx
  obtain ⟨u, us, rfl, rfl, u2, us2, rfl, rfl, rfl⟩ := hx
  obtain ⟨z, rfl, h⟩ := h
  cases b
  ·exact ⟨_, _, h, AR.int _ _, by simp [Builtin.min_, Builtin.min2]⟩
  ·exact ⟨_, _, h, AR.int _ _, by simp [Builtin.max_, Builtin.max2]⟩
 ·exact h.elim
theorem aea {x : A} {u : Value} {i : Nat} (h : tu x i K) (hx : AR β S w x u) : qk P β S w (Instr.extract u i) K := by
 unfold tu at h
 split at h
 ·rename_i l
  obtain ⟨x, h1, h2⟩ := h
  simp only [AR, DR] at hx
  obtain ⟨vs, rfl, hl⟩ := hx
  obtain ⟨v', hv', hR⟩ := ig hl h1
  have : vs[i]? = some v' := by simpa using hv'
  exact ⟨_, v', h2, by simp only [AR]; exact hR, by simp [Instr.extract, this]⟩
 ·exact h.elim
theorem ak0 {c a b : A} {vc va vb : Value} (h : agx c a b K) (hc : AR β S w c vc) (ha : AR β S w a va) (hb : AR β S w b vb) :
  qk P β S w (do pure (if ← asBool vc then va else vb)) K := by
 unfold agx at h
 split at h
 ·rename_i t
  simp only [AR, DR] at hc
  subst hc
  cases t
  ·exact ⟨_, _, h.ff rfl, hb, by simp [asBool]⟩
  ·exact ⟨_, _, h.tt rfl, ha, by simp [asBool]⟩
 ·exact h.elim
theorem ahn.map {ev : Operand → A} {ρ : Operand → Value} (he : ∀ x, AR β S w (ev x) (ρ x)) (x : Option Operand) : ahn β S w (x.map ev) (x.map ρ) := by
 cases x with
 | none => trivial
 | some x => exact he x
theorem ql.map {ev : Operand → A} {ρ : Operand → Value} (he : ∀ x, AR β S w (ev x) (ρ x)) : ∀ l : List (Nat × Operand), ql β S w (l.map fun p => (p.1, ev p.2)) (l.map fun p => (p.1, ρ p.2))
 | [] => .nil
 | p :: l => .cons (he p.2) (ql.map he l)
theorem ARs.map {ev : Operand → A} {ρ : Operand → Value} (he : ∀ x, AR β S w (ev x) (ρ x)) : ∀ l : List Operand, ARs β S w (l.map ev) (l.map ρ)
 | [] => rfl
 | p :: l => ⟨_, _, rfl, he p, ARs.map he l⟩
theorem wm {s : Sem Value} {v : Value} (h : s.run P w = .ok v w) : (do pure (.value (← s)) : Sem Next).run P w = .ok (.value v) w := by
 simp [h]
theorem an9 (hT : b6 P T) {hp : Nat → Option (Bool × List A)} (hh : afe β S w hp) {ev : Operand → A} {ρ : Operand → Value} (he : ∀ x, AR β S w (ev x) (ρ x))
  (o : Oper) (h : ft T ev hp o.op K) : ∃ r v, K r ∧ AR β S w r v ∧ (execOp ρ o).run P w = .ok (.value v) w := by
 obtain ⟨dst, op, type, pos, after, guard⟩ := o
 simp only at h
 unfold ft at h
 split at h
 ·exact ⟨_, _, h, he _, by simp [execOp]⟩
 ·exact ⟨_, _, h, he _, by simp [execOp]⟩
 ·obtain ⟨r, v, h1, h2, h3⟩ := ak0 (P := P) h (he _) (he _) (he _)
  refine ⟨r, v, h1, h2, ?_⟩
  simp only [execOp]
  simp only [Sem.run_bind] at h3 ⊢
  revert h3
  cases (asBool (ρ _)).run P w <;> simp
 ·rename_i t parts
  obtain ⟨r, v, h1, h2, h3⟩ := ahp (P := P) hT h (vparts := parts.map fun p => (p.1, ρ p.2)) (by simpa using ql.map he parts.toList)
  exact ⟨r, v, h1, h2, wm h3⟩
 ·obtain ⟨r, v, h1, h2, h3⟩ := abn (P := P) hT hh h (he _)
  exact ⟨r, v, h1, h2, wm h3⟩
 ·rename_i x
  have hx := he x
  split at h
  ·rename_i b o hev
   rw [hev] at hx
   have hx' := hx
   simp only [AR] at hx
   obtain ⟨k, hk, hv⟩ := hx
   exact ⟨_, ρ x, h, hx', by simp [execOp, hv]⟩
  ·rename_i c hev
   rw [hev] at hx
   have hx' := hx
   simp only [AR] at hx
   obtain ⟨k, o, hv, hl⟩ := hx
   exact ⟨_, ρ x, h, hx', by simp [execOp, hv]⟩
  ·exact h.elim
 ·rename_i op xT x y _
  obtain ⟨r, v, h1, h2, h3⟩ := alx (P := P) hT (x := x) (y := y) h (he _) (he _)
  exact ⟨r, v, h1, h2, wm h3⟩
 ·obtain ⟨r, v, h1, h2, h3⟩ := aqx (P := P) h (he _)
  exact ⟨r, v, h1, h2, wm h3⟩
 ·obtain ⟨r, v, h1, h2, h3⟩ := aj2 (P := P) hT h (he _)
  exact ⟨r, v, h1, h2, wm h3⟩
 ·obtain ⟨r, v, h1, h2, h3⟩ := ahx (P := P) hT hh h (he _) (ahn.map he _) (ahn.map he _) (ahn.map he _)
  exact ⟨r, v, h1, h2, wm h3⟩
 ·obtain ⟨r, v, h1, h2, h3⟩ := abd (P := P) hT h (he _)
  exact ⟨r, v, h1, h2, wm h3⟩
 ·obtain ⟨r, v, h1, h2, h3⟩ := aht (P := P) hT h (he _)
  exact ⟨r, v, h1, h2, wm h3⟩
 ·obtain ⟨r, v, h1, h2, h3⟩ := abi (P := P) hT h (he _) (he _)
  exact ⟨r, v, h1, h2, wm h3⟩
 ·obtain ⟨r, v, h1, h2, h3⟩ := ahu (P := P) hT h (he _) (he _)
  exact ⟨r, v, h1, h2, wm h3⟩
 ·obtain ⟨r, v, h1, h2, h3⟩ := aea (P := P) h (he _)
  exact ⟨r, v, h1, h2, wm h3⟩
 ·rename_i c
  obtain ⟨callee, args, argTypes⟩ := c
  simp only at h
  split at h
  ·split at h
   ·rename_i t x ht hx
    obtain ⟨r, v, h1, h2, h3⟩ := amp (P := P) (ty := type) hT h (he x)
    have e1 : argTypes = #[t] := by cases argTypes; simp_all
    have e2 : args = #[x] := by cases args; simp_all
    subst e1 e2
    exact ⟨r, v, h1, h2, by simp [execOp, resolve, invoke, builtin, h3]⟩
   ·exact h.elim
  ·obtain ⟨r, v, h1, h2, h3⟩ := ady (P := P) (at_ := argTypes) (ty := type) h (ARs.map he args.toList)
   simp only [if_true] at h3
   have e1 : (args.toList.map ρ).toArray = args.map ρ := by cases args; simp
   rw [e1] at h3
   exact ⟨r, v, h1, h2, by simp [execOp, resolve, invoke, builtin, h3]⟩
  ·obtain ⟨r, v, h1, h2, h3⟩ := ady (P := P) (at_ := argTypes) (ty := type) h (ARs.map he args.toList)
   simp only [Bool.false_eq_true, if_false] at h3
   have e1 : (args.toList.map ρ).toArray = args.map ρ := by cases args; simp
   rw [e1] at h3
   exact ⟨r, v, h1, h2, by simp [execOp, resolve, invoke, builtin, h3]⟩
  ·exact h.elim
 ·rename_i f first caps
  split at h
  ·rename_i e
   have e1 : first = #[] := by cases first; simp_all
   subst e1
   refine ⟨_, .func (.func f) #[] (caps.map ρ), h, ?_, ?_⟩
   ·simp only [AR]
    refine ⟨_, rfl, ?_⟩
    have := ARs.map he caps.toList
    simpa using this
   ·simp [execOp, Instr.makeFunc]
  ·exact h.elim
 ·exact h.elim
end
end Go.Ev

namespace Go.Ev
open Go
def lk {α : Type} : List (Nat × α) → Nat → Option α
 | [], _ => none
 | (k, x) :: l, t => if k = t then some x else lk l t
structure St where
 n : Nat
 env : List (Nat × A)
 heap : List (Nat × Bool × List A)
def St.get (σ : St) (t : Nat) : A := (lk σ.env t).getD (.d .any)
def St.put (σ : St) : Option Nat → A → St
 | some d, r => { σ with env := (d, r) :: σ.env }
 | none, _ => σ
def A.force (a : A) (K : A → Prop) : Prop :=
 match a with
 | .d x => K (.d x)
 | .ptr b o => K (.ptr b o)
 | .elem c => K (.elem c)
 | .own b o n s => K (.own b o n s)
 | .agg l => K (.agg l)
 | .fn f l => K (.fn f l)
theorem A.force_eq (a : A) (K : A → Prop) : a.force K = K a := by cases a <;> rfl
def St.kt (σ : St) (dst : Option Nat) (r : A) (K : St → Prop) : Prop :=
 match σ, dst with
 | ⟨n, env, heap⟩, some d => r.force fun r => K ⟨n, (d, r) :: env, heap⟩
 | ⟨n, env, heap⟩, none => K ⟨n, env, heap⟩
theorem St.bq (σ : St) (dst : Option Nat) (r : A) (K : St → Prop) : σ.kt dst r K = K (σ.put dst r) := by
 cases σ
 cases dst
 ·rfl
 ·simp only [St.kt, A.force_eq]; rfl
abbrev bb := Nat → List D
def St.ev (G : bb) (σ : St) : Operand → A
 | .tmp t => σ.get t
 | .const v => aoy v
 | .global g => .elem (G g)
 | .func f => .d (.raw (.func (.func f) #[] #[]))
def St.hp (σ : St) (b : Nat) : Option (Bool × List A) := lk σ.heap b
def D.dn : D → D
 | .nil => .slice 0 []
 | .agg l => .agg (l.map fun | .nil => .slice 0 [] | x => x)
 | .tup l => .tup (l.map fun | .nil => .slice 0 [] | .agg m => .agg (m.map fun | .nil => .slice 0 [] | x => x) | x => x)
 | x => x
def ju (P : Program) (f : FuncId) : Bool := match P.funcs[f]? with
 | some fn => fn.body.isSome && !(fn.name == "runtime.NumGoroutine")
 | none => false
structure Sim (P : Program) (G : bb) (fresh : Bool) (f : FuncId) (args : List D) (r : D) : Prop where
 can : ju P f = true
 run : ∀ (S : Imm) (w : World) (vs : List Value), (∀ k o, S k o → k < w.heap.size) → (∀ g, DRL S w g 0 (G g)) → DRs S w args vs →
  Calls P f vs.toArray w fun e w' => ∃ v, e = .returned v ∧ RowKit.Below w.heap.size w w' ∧
   ∃ S' : Imm, (∀ k o, S' k o → (fresh = false ∧ S k o) ∨ (w.heap.size ≤ k ∧ k < w'.heap.size)) ∧ DR S' w' r v
inductive aa (P : Program) (G : bb) (f : FuncId) (xs : List D) (K : Bool → D → Prop) : Prop where
 | mk (fresh : Bool) (r : D) (h : Sim P G fresh f xs r) (k : K fresh r)
def Ty.aja (y : Ty) : Bool := y.size != 0 && !y.zero.isEmpty && y.zero.length == y.size && y.bytes != 0
theorem Ty.aam {y : Ty} (h : y.aja = true) : y.size ≠ 0 ∧ y.zero ≠ [] ∧ y.zero.length = y.size ∧ y.bytes ≠ 0 := by
 simp only [Ty.aja, Bool.and_eq_true, bne_iff_ne, Bool.not_eq_true', List.isEmpty_eq_false_iff, beq_iff_eq] at h
 exact ⟨h.1.1.1, h.1.1.2, h.1.2, h.2⟩
def jb {α : Type} (n : Nat) (z : List α) : List α := (List.replicate n z).flatten
def ug (T : Tab) (ev : Operand → A) (d : Nat) (op : Op) (K : A → List A → Prop) : Prop :=
 match op with
 | .alloc e => match T e with
  | some y => Cd ((!y.zero.isEmpty) = true) (K (.ptr d 0) (nc y.zero))
  | none => False
 | .box _ x => Cd ((ev x).full = true) (K (.ptr d 0) (ev x).cells)
 | .makeSlice t l c => bg T t fun _ ye => match ev l, ev c with
  | .d (.int _ l), .d (.int _ c) => Cd (l = c) (Cd (0 ≤ l ∧ ye.bytes * l ≤ 140737488355328) (Cd (ye.aja = true) (EqE (jb l.toNat (nc ye.zero)) fun row => K (.own d 0 l.toNat ye.size) row)))
  | _, _ => False
 | .buildSlice t len parts => bg T t fun _ ye => Cd ((ye.aja && decide (len * ye.size ≤ 4096)) = true)
   (abe (fun i => some (i * ye.size, ye.size)) (jb len (nc ye.zero)) (parts.toList.map fun p => (p.1, ev p.2)) fun c => K (.own d 0 len ye.size) c)
 | .slice t x lo hi (some m) => match ev x with
  | .d (.slice _ _) => bg T t fun _ ye => match lo, hi with
   | none, some hi => ∃ kh km, ev hi = .d (.int kh 0) ∧ ev m = .d (.int km 0) ∧ K (.own d 0 0 ye.size) []
   | _, _ => False
  | _ => False
 | _ => False
mutual
def A.kill (b : Nat) : A → A
 | .ptr b' o => if b' = b then .d .any else .ptr b' o
 | .own b' o n sz => if b' = b then .d .any else .own b' o n sz
 | .agg l => .agg (A.gl b l)
 | .fn f l => .fn f (A.gl b l)
 | x => x
def A.gl (b : Nat) : List A → List A
 | [] => []
 | x :: l => x.kill b :: A.gl b l
end
@[simp] theorem A.at5 (b : Nat) : ∀ l : List D, A.gl b (l.map A.d) = l.map A.d
 | [] => rfl
 | x :: l => by simp [A.gl, A.kill, A.at5 b l]
def apa : List (Nat × Bool × List A) → Nat → List A → List (Nat × Bool × List A)
 | [], _, _ => []
 | (k, f, l) :: h, b, l' => if k = b then (k, f, l') :: h else (k, f, l) :: apa h b l'
def St.wr (σ : St) (b : Nat) (l : List A) : St := { σ with heap := apa σ.heap b l }
def St.kill (σ : St) (b : Nat) : St :=
 { σ with env := σ.env.map fun x => (x.1, x.2.kill b), heap := σ.heap.map fun x => (x.1, x.2.1, A.gl b x.2.2) }
def St.new (σ : St) (d : Nat) (l : List A) : St := { σ with heap := (d, false, l) :: σ.heap }
def St.freeze (σ : St) : List Nat → St
 | [] => σ
 | bs => { σ with heap := σ.heap.map fun x => (x.1, x.2.1 || bs.contains x.1, x.2.2) }
def ew (hp : Nat → Option (Bool × List A)) (sz : Nat) (x : A) (K : Nat → List D → Prop) : Prop :=
 match x with
 | .d (.slice n l) => Cd (l.length = n * sz) (K n l)
 | .d .nil => K 0 []
 | .own b o n sz' => match hp b with
  | some (_, l) => DsE l fun ds => Cd (sz' = sz) (Cd (o + n * sz ≤ l.length) (K n ((ds.drop o).take (n * sz))))
  | none => False
 | _ => False
def am4 (b o : Nat) : Nat := bif (Nat.blt b 1000000 || Nat.ble 2000000 b) then o else o + 1
theorem apz {b o : Nat} (h : am4 b o = 0) : o = 0 ∧ (b < 1000000 ∨ 2000000 ≤ b) := by
 unfold am4 at h
 cases hb : (Nat.blt b 1000000 || Nat.ble 2000000 b) with
 | false => rw [hb] at h; simp at h
 | true =>
  rw [hb] at h
  simp only [cond_true] at h
  rw [Bool.or_eq_true, Nat.blt_eq, Nat.ble_eq] at hb
  exact ⟨h, hb⟩
def uv (T : Tab) (G : bb) (σ : St) (d : Option Nat) (op : Op) (K : A → St → Prop) : Prop :=
 match op with
 | .store t a x => match σ.ev G a with
  | .ptr b o => match σ.hp b, T t with
   | some (false, l), some y => Cd ((σ.ev G x).full = true) (Cd ((σ.ev G x).cells.length = y.size) (Cd ((σ.ev G x).cells.all A.one = true) (Cd (o + y.size ≤ l.length) (EqE (setAt l o (σ.ev G x).cells) fun row => K (.d .any) (σ.wr b row)))))
   | _, _ => False
  | _ => False
 | .call c => match c.callee, c.argTypes.toList, c.args.toList, d with
  | .builtin .append, [t, t2], [s, x], some d => bg T t fun _ ye => Cd (((T t2).any Ty.at4 && ye.aja) = true) <|
   ew σ.hp ye.size (σ.ev G x) fun m cs => Cd (∀ c ∈ cs, (A.d c).one = true) <| match σ.ev G s with
    | .d .nil => Cd (m * ye.bytes ≤ 70368744177664) (Cd ((σ.hp d).isNone = true) (EqE (cs.map A.d) fun row => K (.own d 0 m ye.size) (σ.new d row)))
    | .own b o n sz => match σ.hp b with
     | some (false, l) => Cd (am4 b o = 0 ∧ sz = ye.size) (Cd (l.length = n * sz) (Cd ((n + m) * ye.bytes ≤ 70368744177664) (DsE l fun _ => EqE (l ++ cs.map A.d) fun row => K (.own b 0 (n + m) sz) ((σ.kill b).wr b row))))
     | _ => False
    | _ => False
  | _, _, _, _ => False
 | _ => False
def ij (hp : Nat → Option (Bool × List A)) (a : A) (K : D → List Nat → Prop) : Prop :=
 match a with
 | .d x => K x.dn []
 | .own b o n sz => match hp b with
  | some (_, l) => DsE l fun ds => EqE (D.slice n ((ds.drop o).take (n * sz))) fun x => K x [b]
  | none => False
 | .ptr b o => match hp b with
  | some (_, l) => DsE l fun ds => K (.ptrd (ds.drop o)) [b]
  | none => False
 | .elem cells => K (.ptrd cells) []
 | _ => False
def fc (hp : Nat → Option (Bool × List A)) : List A → (List D → List Nat → Prop) → Prop
 | [], K => K [] []
 | a :: as, K => ij hp a fun x bs => fc hp as fun xs bs' => K (x :: xs) (bs ++ bs')
def ma (hp : Nat → Option (Bool × List A)) (a : A) (K : D → List Nat → Prop) : Prop :=
 match a with
 | .agg l => fc hp l fun xs bs => K (.agg xs) bs
 | .fn f l => fc hp l fun xs bs => K (.fnd f xs) bs
 | a => ij hp a K
def ng (hp : Nat → Option (Bool × List A)) : List A → (List D → List Nat → Prop) → Prop
 | [], K => K [] []
 | a :: as, K => ma hp a fun x bs => ng hp as fun xs bs' => K (x :: xs) (bs ++ bs')
def sw (P : Program) (G : bb) (σ : St) (op : Op) (K : A → St → Prop) : Prop :=
 match op with
 | .call c => match c.callee with
  | .value (.func f) => ng σ.hp (c.args.toList.map (σ.ev G)) fun xs bs => aa P G f xs fun fresh r => K (.d r) (if fresh then σ else σ.freeze bs)
  | .value x => match σ.ev G x with
   | .fn f cs => ng σ.hp (c.args.toList.map (σ.ev G) ++ cs) fun xs bs => aa P G f xs fun fresh r => K (.d r) (if fresh then σ else σ.freeze bs)
   | _ => False
  | _ => False
 | _ => False
def kindOf : Op → Nat
 | .alloc _ | .box _ _ | .makeSlice _ _ _ | .buildSlice _ _ _ | .slice _ _ _ _ (some _) => 1
 | .store _ _ _ => 2
 | .call c => match c.callee with
  | .builtin .append | .builtin .copy => 2
  | .builtin _ => 0
  | _ => 3
 | _ => 0
def ni (P : Program) (G : bb) (T : Tab) (σ : St) (o : Oper) (K : St → Prop) : Prop :=
 match kindOf o.op with
 | 0 => ft T (σ.ev G) σ.hp o.op fun r => σ.kt o.dst r K
 | 1 => match o.dst with
  | some d => Cd ((σ.hp d).isNone = true) (ug T (σ.ev G) d o.op fun r l => (σ.new d l).kt (some d) r K)
  | none => False
 | 2 => uv T G σ o.dst o.op fun r σ' => σ'.kt o.dst r K
 | _ => sw P G σ o.op fun r σ' => σ'.kt o.dst r K
def ake (ops : Array Oper) (j : Nat) : Option Nat := (ops[j]?).bind (·.dst)
def pg (ops : Array Oper) (σ : St) (o : Oper) (yes : St → Prop) (no : St → Prop) : Prop :=
 match o.guard with
 | none => yes σ
 | some (j, want) => match ake ops j with
  | none => False
  | some g => match σ.get g with
   | .d (.bool t) => match want with
    | true => Br t (σ.kt (some g) (.d (.bool true)) yes) (σ.kt (some g) (.d (.bool false)) no)
    | false => Br t (σ.kt (some g) (.d (.bool true)) no) (σ.kt (some g) (.d (.bool false)) yes)
   | .d (.tup []) => no σ
   | _ => False
def zo (P : Program) (G : bb) (T : Tab) (ops : Array Oper) : List Oper → St → (St → Prop) → Prop
 | [], σ, Q => Q σ
 | o :: rest, σ, Q => pg ops σ o (fun σ => ni P G T σ o fun σ' => zo P G T ops rest σ' Q) (fun σ => σ.kt o.dst (.d (.tup [])) fun σ => zo P G T ops rest σ Q)
def Own.at (M : Own) (k : Nat) : Prop := ∃ b, M b = some (some k)
structure Ext (w0 : World) (M : Own) (w : World) : Prop where
 os : w.os = w0.os
 tape : w.tape = w0.tape
 output : w.output = w0.output
 size : w0.heap.size ≤ w.heap.size
 block : ∀ k, k < w0.heap.size → ¬ M.at k → w.heap[k]? = w0.heap[k]?
 s7 : qo w0 w
structure Rel (G : bb) (w0 : World) (M : Own) (S0 : Imm) (σ : St) (a : Act) (w : World) (β : Own) (S : Imm) : Prop where
 defers : a.defers = []
 size : a.tmps.size = σ.n
 env : ∀ t x, lk σ.env t = some x → AR β S w x (a.tmps.getD t undef)
 glob : ∀ g, DRL S w g 0 (G g)
 keys : ∀ b, β b ≠ none → lk σ.heap b ≠ none
 rd : ∀ b k fr l, β b = some (some k) → lk σ.heap b = some (fr, l) → Rd β S w k l
 live : ∀ b k l, β b = some (some k) → lk σ.heap b = some (false, l) → (∀ o, ¬ S k o) ∧ (w0.heap.size ≤ k ∨ M.at k)
 froz : ∀ b k l, β b = some (some k) → lk σ.heap b = some (true, l) → ∃ ds : List D, l = ds.map A.d ∧ DRL S w k 0 ds
 fd : ∀ b l, lk σ.heap b = some (true, l) → ∃ ds : List D, l = ds.map A.d
 nilb : ∀ b fr l, β b = some none → lk σ.heap b = some (fr, l) → l = []
 inj : ∀ b b' k, β b = some (some k) → β b' = some (some k) → b = b'
 imm : ∀ k o, S k o → k < w.heap.size
 old : ∀ k o, S k o → k < w0.heap.size → S0 k o ∨ M.at k
 ext : Ext w0 M w
 stay : ∀ b, 1000000 ≤ b → b < 2000000 → lk σ.heap b ≠ none → β b = M b
 small : σ.n ≤ 1000000
 src : ∀ b k, β b = some (some k) → w0.heap.size ≤ k ∨ M.at k
theorem Rel.get {G : bb} {w0 : World} {M : Own} {S0 : Imm} {σ : St} {a : Act} {w : World} {β : Own} {S : Imm} (h : Rel G w0 M S0 σ a w β S) (t : Nat) : AR β S w (σ.get t) (a.tmps.getD t undef) := by
 unfold St.get
 cases hl : lk σ.env t with
 | none => simp [AR, DR]
 | some x => exact h.env t x hl
theorem Rel.ev {G : bb} {w0 : World} {M : Own} {S0 : Imm} {σ : St} {a : Act} {w : World} {β : Own} {S : Imm} (h : Rel G w0 M S0 σ a w β S) (x : Operand) : AR β S w (σ.ev G x) (a.eval x) := by
 cases x with
 | tmp t => exact h.get t
 | const v => exact avd v
 | global g => simp only [St.ev, AR, Act.eval]; exact ⟨g, 0, rfl, h.glob g⟩
 | func f => simp only [St.ev, AR, DR, Act.eval]
theorem Rel.hrd {G : bb} {w0 : World} {M : Own} {S0 : Imm} {σ : St} {a : Act} {w : World} {β : Own} {S : Imm} (h : Rel G w0 M S0 σ a w β S) : afe β S w σ.hp := fun b k fr l hb hl => h.rd b k fr l hb hl
theorem Rel.put {G : bb} {w0 : World} {M : Own} {S0 : Imm} {σ : St} {a : Act} {w : World} {β : Own} {S : Imm} (h : Rel G w0 M S0 σ a w β S) {dst : Option Nat} {r : A} {v : Value} (hr : AR β S w r v) (hd : ∀ d, dst = some d → d < σ.n) :
  Rel G w0 M S0 (σ.put dst r) (a.put dst v) w β S := by
 cases dst with
 | none => exact h
 | some d =>
  refine { h with defers := ?_, size := ?_, env := ?_ }
  ·exact h.defers
  ·simpa [Act.put, St.put] using h.size
  ·intro t x hx
   simp only [St.put, lk] at hx
   have hdn := hd d rfl
   rw [← h.size] at hdn
   simp only [Act.put]
   split at hx
   ·rename_i e
    subst e
    cases hx
    simpa [Array.getElem?_setIfInBounds, hdn] using hr
   ·rename_i e
    have := h.env t x hx
    simpa [Array.getElem?_setIfInBounds, e] using this
end Go.Ev
