/- Contracts of the given functions, on data. Conditions stand in each theorem. -/
import Derived.Test.YtagjickjfjgfpaaGreatDoorHEvG
set_option linter.unusedSimpArgs false
set_option linter.unusedVariables false
namespace Go.Ev
open Go
section
variable {P : Program} {G : bb} {T : Tab} {w0 : World} {M : Own} {S0 : Imm} {σ : St} {a : Act} {w w' : World} {β : Own} {S : Imm}
theorem rj {k o : Nat} {vals : List Value} (h : ∀ j v, vals[j]? = some v → w.cell? ⟨k, o + j, none⟩ = some v) : (loadCells ⟨k, o, none⟩ vals.length).run P w = .ok vals.toArray w := by
 have := run_loadCellsFrom (P := P) (w := w) (a := ⟨k, o, none⟩) vals.length 0 #[] (fun j => vals.getD j undef) (fun j hj => by
  rw [dx]
  rw [Nat.zero_add]
  exact h j _ (by simp [hj]))
 have e : ((List.range vals.length).map fun j => vals.getD j undef) = vals := by
  refine List.ext_getElem? fun i => ?_
  by_cases hi : i < vals.length
  ·simp [hi]
  ·rw [List.getElem?_eq_none (by simp; omega), List.getElem?_eq_none (by omega)]
 rw [e] at this
 simpa [loadCells] using this
theorem ahq {hp : Nat → Option (Bool × List A)} (hh : afe β S w hp) {sz : Nat} {x : A} {v : Value} {K : Nat → List D → Prop} (h : ew hp sz x K) (hx : AR β S w x v) :
  ∃ m cs vals, K m cs ∧ cs.length = m * sz ∧ DRs S w cs vals ∧ ∀ w', zz w w' → (Builtin.lenOf v).run P w' = .ok m w' ∧ (Builtin.firstCells sz m v).run P w' = .ok vals.toArray w' := by
 unfold ew at h
 split at h
 ·rename_i n l
  obtain ⟨hl, hK⟩ := h
  simp only [AR, DR] at hx
  obtain ⟨b, c, rfl, hc, hd⟩ := hx
  rcases hd with rfl | ⟨k, o, rfl, hd⟩
  ·simp at hl
   refine ⟨n, [], [], hK, by simpa using hl, rfl, fun w' _ => ⟨by simp [Builtin.lenOf], ?_⟩⟩
   cases b with
   | none => simp [Builtin.firstCells]
   | some b => simp [Builtin.firstCells, ← hl, loadCells, loadCellsFrom]
  ·have hv : ∀ j, j < l.length → ∃ x u, l[j]? = some x ∧ w.cell? ⟨k, o + j, none⟩ = some u ∧ DR S w x u := fun j hj => by
    obtain ⟨_, u, h1, h2⟩ := yj hd (j := j) (x := l[j]) (by simp [hj])
    exact ⟨_, u, by simp [hj], h1, h2⟩
   refine ⟨n, l, (List.range l.length).map fun j => (w.cell? ⟨k, o + j, none⟩).getD undef, hK, hl, ?_, fun w' ho => ⟨by simp [Builtin.lenOf], ?_⟩⟩
   ·refine qj (by simp) fun j x u hj hu => ?_
    have hlt : j < l.length := (List.getElem?_eq_some_iff.1 hj).1
    obtain ⟨x', u', h1, h2, h3⟩ := hv j hlt
    rw [h1] at hj; cases hj
    simp only [List.getElem?_map, List.getElem?_range hlt, Option.map_some, Option.some.injEq, h2, Option.getD_some] at hu
    rwa [← hu]
   ·have := rj (P := P) (w := w') (k := k) (o := o) (vals := (List.range l.length).map fun j => (w.cell? ⟨k, o + j, none⟩).getD undef) (fun j v hj => by
     have hlt : j < l.length := by have := (List.getElem?_eq_some_iff.1 hj).1; simpa using this
     obtain ⟨x', u', h1, h2, h3⟩ := hv j hlt
     simp only [List.getElem?_map, List.getElem?_range hlt, Option.map_some, Option.some.injEq, h2, Option.getD_some] at hj
     have hkb : k < w.heap.size := by
      have := World.block_lt_of_cell? (w := w) (a := ⟨k, o + j, none⟩) h2; exact this
     rw [j0 (ho k hkb), h2, hj])
    simp only [List.length_map, List.length_range] at this
    simp only [Builtin.firstCells, ← hl]
    exact this
 ·simp only [AR, DR] at hx
  subst hx
  exact ⟨0, [], [], h, by simp, rfl, fun w' _ => ⟨by simp [Builtin.lenOf], by simp [Builtin.firstCells]⟩⟩
 ·rename_i b o n sz'
  split at h
  ·rename_i fr l hl
   obtain ⟨ds, rfl, rfl, hlen, hK⟩ := h
   simp only [List.length_map] at hlen
   simp only [AR] at hx
   rcases hx with ⟨k, hk, c, C, Tc, fr', rfl, hc, hC, hl'⟩ | ⟨rfl, hbn, b', rfl⟩
   ·obtain ⟨C2, T2, hC2, h2, h3⟩ := hh b k _ _ hk hl
    rw [hC] at hC2; cases hC2
    simp only [List.length_map] at h2
    have hv : ∀ j, j < n * sz' → ∃ x u, ((ds.drop o).take (n * sz'))[j]? = some x ∧ C[o + j]? = some u ∧ DR S w x u := fun j hj => by
     obtain ⟨u, h4, h5⟩ := h3 (o + j) (.d ds[o + j]) (by simp [show o + j < ds.length by omega])
     refine ⟨ds[o + j], u, ?_, h4, by simpa only [AR] using h5⟩
     rw [List.getElem?_take, if_pos hj]
     simp [show o + j < ds.length by omega]
    refine ⟨n, (ds.drop o).take (n * sz'), (List.range (n * sz')).map fun j => (C[o + j]?).getD undef, hK, by simp; omega, ?_, fun w' ho => ⟨by simp [Builtin.lenOf], ?_⟩⟩
    ·refine qj (by simp; omega) fun j x u hj hu => ?_
     obtain ⟨hj', hlt⟩ := jh hj
     obtain ⟨x', u', h4, h5, h6⟩ := hv j hlt
     rw [h4] at hj; cases hj
     simp only [List.getElem?_map, List.getElem?_range hlt, Option.map_some, Option.some.injEq, h5, Option.getD_some] at hu
     rwa [← hu]
    ·have := rj (P := P) (w := w') (k := k) (o := o) (vals := (List.range (n * sz')).map fun j => (C[o + j]?).getD undef) (fun j v hj => by
      have hlt : j < n * sz' := by have := (List.getElem?_eq_some_iff.1 hj).1; simpa using this
      obtain ⟨x', u', h4, h5, h6⟩ := hv j hlt
      simp only [List.getElem?_map, List.getElem?_range hlt, Option.map_some, Option.some.injEq, h5, Option.getD_some] at hj
      rw [j0 (ho k (fp hC)), jc hC, h5, hj])
     simp only [List.length_map, List.length_range] at this
     simp only [Builtin.firstCells]
     exact this
   ·refine ⟨0, (ds.drop o).take (0 * sz'), [], hK, by simp, by simp [DRs], fun w' _ => ⟨by simp [Builtin.lenOf], ?_⟩⟩
    cases b' with
    | none => simp [Builtin.firstCells]
    | some b' => simp [Builtin.firstCells, loadCells, loadCellsFrom]
  ·exact h.elim
 ·exact h.elim
theorem nextslicecap_le {need c : Nat} (h : c < need) : Builtin.nextslicecap need c ≤ 2 * need := by
 unfold Builtin.nextslicecap
 split
 ·omega
 ·split
  ·omega
  ·have key : ∀ r x, x ≤ 2 * need → Builtin.growBy need r x ≤ 2 * need := by
    intro r
    induction r with
    | zero => intro x hx; simpa [Builtin.growBy] using hx
    | succ r ih =>
     intro x hx
     simp only [Builtin.growBy]
     split
     ·exact hx
     ·exact ih _ (by omega)
   exact key 4 c (by omega)
theorem ahm (z : Array Value) (n : Nat) : (Builtin.zeroCells z n).size = n * z.size := by simp [Builtin.zeroCells]
theorem x8 {t t2 ty e : Nat} {ye : Ty} {u2 : TypeDesc} (hT : b6 P T) (hu : P.underlying t = some (.slice e)) (hye : T e = some ye) (hu2 : P.underlying t2 = some u2) (hni : ∀ k, u2 ≠ .int k) (hz : ye.zero ≠ []) (hzl : ye.zero.length = ye.size) (hb0 : ye.bytes ≠ 0)
  {base : Option Addr} {n c m : Nat} {x : Value} {olds news : List Value} (hlen : (Builtin.lenOf x).run P w = .ok m w) (hroom : c < n + m) (hbig : (n + m) * ye.bytes ≤ 70368744177664)
  (hold : ∀ w', zz w w' → (Builtin.firstCells ye.size n (.slice base n c)).run P w' = .ok olds.toArray w') (hnew : ∀ w', zz w w' → (Builtin.firstCells ye.size m x).run P w' = .ok news.toArray w') :
  ∃ (cap : Nat) (rest : Array Value) (w' : World), n + m ≤ cap ∧ rest.size = (cap - (n + m)) * ye.size ∧ (Builtin.append_ #[t, t2] ty #[.slice base n c, x]).run P w = .ok (.slice (some ⟨w.heap.size, 0, none⟩) (n + m) cap) w' ∧
   w'.heap = w.heap.push (.cells (olds.toArray ++ news.toArray ++ rest) e) ∧ w'.os = w.os ∧ w'.tape = w.tape ∧ w'.output = w.output := by
 obtain ⟨i, hi, hib, his⟩ := sy (w := w) hT hye
 obtain ⟨z, _, hzc⟩ := um (w := w) hT hye hz
 have hzs : z.cells.size = ye.size := by
  have := congrArg List.length hzc
  simpa [hzl] using this
 have hbne : i.bytes ≠ 0 := by omega
 let q : Question := .appendCap (n + m) c e
 let w1 : World := { w with drawn := w.drawn + 1 }
 have hneed : n + m ≤ 70368744177664 := by
  have h2 : (n + m) * 1 ≤ (n + m) * ye.bytes := Nat.mul_le_mul_left _ (by omega)
  omega
 have hcap : n + m ≤ q.cut (w.tape w.drawn q) := by simp [q, Question.cut]
 have hi1 : ∀ w, (typeInfo e).run P w = .ok i w := by
  intro w'
  obtain ⟨i', hi', _⟩ := sy (w := w') hT hye
  have h1 : P.info? e = some i := by
   simp only [typeInfo, Sem.run_bind, run_program, Result.andThen_ok] at hi
   cases h : P.info? e with
   | none => simp [h] at hi
   | some y => simp [h] at hi; rw [hi]
  simp [typeInfo, h1]
 have hz1 : (zeroValue e).run P w1 = .ok z w1 := by
  obtain ⟨i', d', hi', hd', _, _, _, _, hz'⟩ := Ty.info hT hye
  have : ∀ w w' : World, (zeroValue e).run P w = .ok z w → (zeroValue e).run P w' = .ok z w' := by
   intro w w' hh
   simp only [zeroValue, Sem.run_bind, hi1, Result.andThen_ok] at hh ⊢
   cases hq : i.zero with
   | none => rw [hq] at hh; simp at hh
   | some y => rw [hq] at hh; simp at hh; simp [hh]
  exact this w w1 ‹_›
 have ho1 : zz w w1 := fun _ _ => rfl
 have hi64 : IntKind.i64.max = 9223372036854775807 := by decide
 have hfin : ¬ (Builtin.nextslicecap (n + m) c * i.bytes > 2 ^ 48) := by
  have h1 := nextslicecap_le hroom
  have h2 : Builtin.nextslicecap (n + m) c * i.bytes ≤ 2 * (n + m) * i.bytes := Nat.mul_le_mul_right _ h1
  rw [hib] at h2 ⊢
  have h3 : 2 * (n + m) * ye.bytes = 2 * ((n + m) * ye.bytes) := Nat.mul_assoc _ _ _
  omega
 refine ⟨q.cut (w.tape w.drawn q), Builtin.zeroCells z.cells (q.cut (w.tape w.drawn q) - (n + m)), w1.alloc (.cells (olds.toArray ++ news.toArray ++ Builtin.zeroCells z.cells (q.cut (w.tape w.drawn q) - (n + m))) e), hcap, by rw [ahm, hzs], ?_, rfl, rfl, rfl, rfl⟩
 have hq : q.forced = false := rfl
 cases u2 with
 | int k => exact absurd rfl (hni k)
 | _ =>
  simp only [Builtin.append_, List.getElem?_toArray, List.getElem?_cons_zero, List.getElem?_cons_succ, Sem.run_bind, run_underlying hu, run_underlying hu2, Result.andThen_ok, ca hT hye, Sem.run_pure]
  simp [hlen]
  rw [if_neg (show ¬ n + m ≤ c by omega), hi1]
  simp only [Result.andThen_ok]
  rw [if_neg (by rintro ⟨h1, _⟩; omega), hi1]
  simp only [Result.andThen_ok]
  rw [if_neg (by simpa using hfin), if_neg (by simp [Question.forced]), hi1]
  simp only [Result.andThen_ok]
  rw [hold w.drew (fun _ _ => rfl)]
  simp only [Result.andThen_ok]
  rw [hnew w.drew (fun _ _ => rfl)]
  simp only [Result.andThen_ok]
  rw [show (zeroValue e).run P w.drew = .ok z w.drew from hz1]
  simp [newRow, q, w1]
  congr 2
  apply Array.ext'
  simp [List.append_assoc]
theorem nu {t t2 ty e : Nat} {ye : Ty} {u2 : TypeDesc} (hT : b6 P T) (hu : P.underlying t = some (.slice e)) (hye : T e = some ye) (hu2 : P.underlying t2 = some u2) (hni : ∀ k, u2 ≠ .int k)
  {base : Option Addr} {n c m : Nat} {x : Value} {news : List Value} (hlen : (Builtin.lenOf x).run P w = .ok m w) (hroom : n + m ≤ c) (hnew : (Builtin.firstCells ye.size m x).run P w = .ok news.toArray w)
  (hst : ∀ b, base = some b → (storeCells (b.add (n * ye.size)) news).run P w = .ok () w') (hno : base = none → w' = w) :
  (Builtin.append_ #[t, t2] ty #[.slice base n c, x]).run P w = .ok (.slice base (n + m) c) w' := by
 cases u2 with
 | int k => exact absurd rfl (hni k)
 | _ =>
  simp only [Builtin.append_, List.getElem?_toArray, List.getElem?_cons_zero, List.getElem?_cons_succ, Sem.run_bind, run_underlying hu, run_underlying hu2, Result.andThen_ok, ca hT hye, Sem.run_pure]
  simp [hlen]
  rw [if_pos hroom, hnew]
  simp only [Result.andThen_ok]
  cases base with
  | none => simp [hno rfl]
  | some b => simp [hst b rfl]
theorem uz (olds vals : List Value) (rest : Array Value) {j : Nat} {u : Value} (h : (olds ++ vals)[j]? = some u) : (olds.toArray ++ vals.toArray ++ rest)[j]? = some u := by
 have hlt := (List.getElem?_eq_some_iff.1 h).1
 have e7 : olds.toArray ++ vals.toArray ++ rest = (olds ++ vals).toArray ++ rest := by simp
 rw [e7, Array.getElem?_append, if_pos (by simpa using hlt)]
 simpa using h
theorem ajt (hT : b6 P T) (h : Rel G w0 M S0 σ a w β S) {o : Oper} {d : Nat} (hdK : d < 1000000) {c : Call} (ho : o.op = .call c) {K : A → St → Prop} (hk : uv T G σ (some d) (.call c) K) :
  ∃ r σ' v w' β', K r σ' ∧ (execOp a.eval o).run P w = .ok (.value v) w' ∧ Rel G w0 M S0 σ' a w' β' S ∧ AR β' S w' r v ∧ σ'.n = σ.n := by
 obtain ⟨dst, op, type, pos, after, guard⟩ := o
 simp only at ho
 subst ho
 obtain ⟨callee, args, argTypes⟩ := c
 simp only [uv] at hk
 split at hk
 ·rename_i t t2 s x d' hat har hd'
  cases hd'
  have e1 : argTypes = #[t, t2] := by cases argTypes; simp_all
  have e2 : args = #[s, x] := by cases args; simp_all
  subst e1 e2
  obtain ⟨e, ye, hu, hye, h2, hk⟩ := c7 hT hk
  simp only [Bool.and_eq_true] at h2
  obtain ⟨h2, hrow⟩ := h2
  obtain ⟨hs0, hz, hzl, hb0⟩ := Ty.aam hrow
  simp only [Option.any_eq_true] at h2
  obtain ⟨y2, hy2, hk2⟩ := h2
  have hu2 : ∃ u2, P.underlying t2 = some u2 ∧ ∀ k, u2 ≠ .int k := by
   unfold Ty.at4 at hk2
   split at hk2
   ·rename_i e2 he2; exact ⟨_, yf hT hy2 he2, fun k hc => by cases hc⟩
   ·simp at hk2
  obtain ⟨u2, hu2, hni⟩ := hu2
  have hx := h.ev x
  have hs := h.ev s
  obtain ⟨m, cs, vals, hk, hcl, hcR, hrun⟩ := ahq (P := P) h.hrd hk hx
  obtain ⟨hone, hk⟩ := hk
  have hvl := cy hcR
  have hexec : ∀ {v : Value} {w' : World}, (Builtin.append_ #[t, t2] type #[a.eval s, a.eval x]).run P w = .ok v w' → (execOp a.eval ⟨dst, .call ⟨.builtin .append, #[s, x], #[t, t2]⟩, type, pos, after, guard⟩).run P w = .ok (.value v) w' := by
   intro v w' hh
   simp [execOp, resolve, invoke, builtin, hh]
  obtain ⟨hlen, hnew0⟩ := hrun w (fun _ _ => rfl)
  have hones : ∀ v ∈ vals, v.oneCell' = true := by
   intro v hv
   obtain ⟨j, hj⟩ := List.getElem?_of_mem hv
   have hlt : j < cs.length := by have := (List.getElem?_eq_some_iff.1 hj).1; omega
   obtain ⟨u, hu', hR⟩ := ig hcR (j := j) (x := cs[j]) (by simp [hlt])
   rw [hj] at hu'; cases hu'
   exact A.asc (β := β) (S := S) (w := w) (x := .d cs[j]) (by simpa only [AR] using hR) (hone _ (List.getElem_mem _))
  split at hk
  ·-- onto nil
   rename_i es
   rw [es] at hs
   simp only [AR, DR] at hs
   obtain ⟨hbig, hd0, _, rfl, hK⟩ := hk
   have hd : σ.hp d = none := by simpa using hd0
   by_cases hm : m = 0
   ·subst hm
    have hcs : cs = [] := List.length_eq_zero_iff.1 (by simpa using hcl)
    subst hcs
    have hvs : vals = [] := List.length_eq_zero_iff.1 (by simpa using hvl)
    subst hvs
    refine ⟨_, _, .slice none 0 0, w, _, hK, hexec ?_, h.ghost hd hdK, ?_, rfl⟩
    ·rw [hs]
     exact nu hT hu hye hu2 hni hlen (Nat.le_refl _) hnew0 (fun b hb => by cases hb) (fun _ => rfl)
    ·simp only [AR]; exact .inr ⟨trivial, by simp [Own.gh], none, rfl⟩
   ·obtain ⟨cap, rest, w', hc1, hc2, hr, hw1, hw2, hw3, hw4⟩ := x8 (w := w) (ty := type) (base := none) (n := 0) (c := 0) (olds := []) (news := vals) hT hu hye hu2 hni hz hzl hb0 hlen (by omega) (by simpa using hbig)
     (fun w' _ => by simp [Builtin.firstCells]) (fun w' ho => (hrun w' ho).2)
    obtain ⟨h1, h2, h3, h4⟩ := h.push (l := cs.map A.d) hd hdK hw1 hw2 hw3 hw4 (by simp; omega) (fun j x hj => by
     simp only [List.getElem?_map, Option.map_eq_some_iff] at hj
     obtain ⟨y, hy, rfl⟩ := hj
     obtain ⟨u, hu', hR⟩ := ig hcR hy
     exact ⟨u, uz [] vals rest hu', by simp only [AR]; exact hR⟩)
    refine ⟨_, _, _, w', _, hK, hexec (by rw [hs]; exact hr), h1, ?_, rfl⟩
    simp only [AR]
    refine .inl ⟨w.heap.size, by simp [Own.set], cap, ([] : List Value).toArray ++ vals.toArray ++ rest, e, (0, 0), by rw [Nat.zero_add], by omega, by rw [hw1]; simp, ?_⟩
    have e5 : vals.length = m * ye.size := by omega
    simp [hc2, e5]
    rw [← Nat.add_mul]
    exact Nat.mul_le_mul_right _ (by omega)
  ·-- onto the call's own
   rename_i b o n sz es
   rw [es] at hs
   split at hk
   ·rename_i l hl
    obtain ⟨⟨hok, rfl⟩, hll, hbig, ds, rfl, _, rfl, hK⟩ := hk
    obtain ⟨rfl, hbK⟩ := apz hok
    simp only [List.length_map] at hll
    simp only [AR] at hs
    have hl' : lk σ.heap b = some (false, ds.map A.d) := hl
    have hbne : β b ≠ none := by
     rcases hs with ⟨k', hk', _⟩ | ⟨_, h', _⟩
     ·rw [hk']; simp
     ·exact h'
    -- where there is room
    by_cases hroom : ∃ base c, a.eval s = .slice base n c ∧ n + m ≤ c ∧ (c = 0 ∨ ∃ k, β b = some (some k) ∧ base = some ⟨k, 0, none⟩)
    ·obtain ⟨base, c, hv, hr, hbase⟩ := hroom
     rcases hbase with rfl | ⟨k, hk, rfl⟩
     ·have hn : n = 0 := by omega
      have hm : m = 0 := by omega
      subst hn hm
      have hcs : cs = [] := List.length_eq_zero_iff.1 (by simpa using hcl)
      subst hcs
      have hds : ds = [] := List.length_eq_zero_iff.1 (by simpa using hll)
      subst hds
      have hvs : vals = [] := List.length_eq_zero_iff.1 (by simpa using hvl)
      subst hvs
      have hst : ((σ.kill b).wr b []) = (σ.kill b).wr b [] := rfl
      have hlk : lk (σ.kill b).heap b = some (false, []) := by simp [St.kill, dh, hl', A.gl]
      have hkill := h.kill b
      have hwr : Rel G w0 M S0 ((σ.kill b).wr b []) a w β S := by
       have hsame : ∀ t, lk ((σ.kill b).wr b []).heap t = lk (σ.kill b).heap t := by
        intro t
        simp only [St.wr, ei]
        split
        ·rename_i e; subst e; rw [hlk]; rfl
        ·rfl
       exact { hkill with stay := fun b h1 h2 hb => hkill.stay b h1 h2 (by rw [← hsame]; exact hb), keys := fun b hb => by rw [hsame]; exact hkill.keys b hb, rd := fun b k fr l hb hl => by rw [hsame] at hl; exact hkill.rd b k fr l hb hl, live := fun b k l hb hl => by rw [hsame] at hl; exact hkill.live b k l hb hl, froz := fun b k l hb hl => by rw [hsame] at hl; exact hkill.froz b k l hb hl, fd := fun b l hl => by rw [hsame] at hl; exact hkill.fd b l hl, nilb := fun b fr l hb hl => by rw [hsame] at hl; exact hkill.nilb b fr l hb hl }
      refine ⟨_, _, .slice base 0 0, w, β, hK, hexec ?_, by simpa using hwr, ?_, rfl⟩
      ·rw [hv]
       exact nu hT hu hye hu2 hni hlen (by omega) hnew0 (fun b hb => by simp [storeCells]) (fun _ => rfl)
      ·simp only [AR]; exact .inr ⟨by first | trivial | omega, hbne, base, rfl⟩
     ·obtain ⟨C, Tc, hC, hlC, hcell⟩ := h.rd b k _ _ hk hl'
      simp only [List.length_map] at hlC
      have hsize : c * ye.size ≤ C.size ∨ c = 0 := by
       rcases hs with ⟨k', hk', c', C', T', fr', hv', _, hC', hle⟩ | ⟨hn, _, a', hv'⟩
       ·rw [hk] at hk'; cases hk'
        rw [hC] at hC'; cases hC'
        rw [hv] at hv'; cases hv'
        left; omega
       ·rw [hv] at hv'; cases hv'
        right; rfl
      have hsize' : c * ye.size ≤ C.size := by
       rcases hsize with h' | h'
       ·exact h'
       ·subst h'; simp
      have hfit : n * ye.size + vals.length ≤ C.size := by
       have h1 : (n + m) * ye.size ≤ c * ye.size := Nat.mul_le_mul_right _ hr
       rw [Nat.add_mul] at h1
       omega
      have hkill := h.kill b
      have hlk : lk (σ.kill b).heap b = some (false, ds.map A.d) := by simp [St.kill, dh, hl']
      obtain ⟨w', C', g1, g2, g3, g4, g5, g6, g7, g8⟩ := ow (P := P) (k := k) (Tc := Tc) vals C (n * ye.size) 0 w hones hC (by omega)
      have hsz : C'.size = C.size := by
       have := congrArg List.length g3
       simpa [ml] using this
      obtain ⟨g9, g10, g11⟩ := hkill.write (l' := ds.map A.d ++ cs.map A.d) hk hlk hC g2 hsz g4 g5 g6 g7 g8 (by simp; omega) (fun j z hj => by
       have hC'j : C'[j]? = (setAt C.toList (n * ye.size) vals)[j]? := by
        have : C'[j]? = C'.toList[j]? := by simp
        rw [this, g3]; rfl
       rw [hC'j, getElem?_setAt _ _ _ _ (by simp; omega)]
       rw [List.getElem?_append] at hj
       simp only [List.length_map] at hj
       split at hj
       ·rename_i hlt
        rw [if_neg (by omega)]
        obtain ⟨u, hu', hR⟩ := hcell j z hj
        simp only [List.getElem?_map, Option.map_eq_some_iff] at hj
        obtain ⟨y, hy, rfl⟩ := hj
        exact ⟨u, by simpa using hu', hR⟩
       ·rename_i hlt
        simp only [List.getElem?_map, Option.map_eq_some_iff] at hj
        obtain ⟨y, hy, rfl⟩ := hj
        have hlt2 : j - ds.length < cs.length := (List.getElem?_eq_some_iff.1 hy).1
        rw [if_pos (by omega)]
        obtain ⟨u, hu', hR⟩ := ig hcR hy
        exact ⟨u, by rw [← hll]; exact hu', by simp only [AR]; exact hR⟩)
      refine ⟨_, _, .slice (some ⟨k, 0, none⟩) (n + m) c, w', β, hK, hexec ?_, g9, ?_, rfl⟩
      ·rw [hv]
       exact nu hT hu hye hu2 hni hlen hr hnew0 (fun b hb => by cases hb; rw [dx, Nat.zero_add]; exact g1) (fun hb => by cases hb)
      ·simp only [AR]
       exact .inl ⟨k, hk, c, C', Tc, (0, 0), rfl, hr, g2, by omega⟩
    ·-- a new row
     have hv : ∃ base c, a.eval s = .slice base n c ∧ c < n + m ∧ ∃ olds : List Value, DRs S w ds olds ∧ ∀ w', zz w w' → (Builtin.firstCells ye.size n (.slice base n c)).run P w' = .ok olds.toArray w' := by
      rcases hs with ⟨k, hk, c, C, Tc, fr, hv, hc, hC, hle⟩ | ⟨rfl, hbn, a', hv⟩
      ·refine ⟨_, c, hv, Nat.lt_of_not_le fun hle => hroom ⟨_, c, hv, hle, .inr ⟨k, hk, rfl⟩⟩, ?_⟩
       obtain ⟨C2, T2, hC2, hlC, hcell⟩ := h.rd b k _ _ hk hl'
       rw [hC] at hC2; cases hC2
       simp only [List.length_map] at hlC
       refine ⟨C.toList.take ds.length, qj (by simp; omega) fun j y u hj hu => ?_, fun w' ho => ?_⟩
       ·obtain ⟨u', hu', hR⟩ := hcell j (.d y) (by simp [hj])
        have hlt : j < ds.length := (List.getElem?_eq_some_iff.1 hj).1
        rw [List.getElem?_take, if_pos hlt] at hu
        have : C[j]? = some u := by simpa using hu
        rw [this] at hu'; cases hu'
        simpa only [AR] using hR
       ·have := rj (P := P) (w := w') (k := k) (o := 0) (vals := C.toList.take ds.length) (fun j v hj => by
         have hlt : j < ds.length := by
          have := (List.getElem?_eq_some_iff.1 hj).1
          simp at this; omega
         rw [List.getElem?_take, if_pos hlt] at hj
         rw [j0 (ho k (fp hC)), jc hC, Nat.zero_add]
         simpa using hj)
        simp only [Builtin.firstCells]
        rw [← hll]
        have e9 : (C.toList.take ds.length).length = ds.length := by simp; omega
        rw [e9] at this
        exact this
      ·refine ⟨_, 0, hv, Nat.lt_of_not_le fun hle => hroom ⟨_, 0, hv, hle, .inl rfl⟩, [], ?_, fun w' ho => ?_⟩
       ·have hds : ds = [] := List.length_eq_zero_iff.1 (by simpa using hll)
        subst hds; simp [DRs]
       ·cases a' <;> simp [Builtin.firstCells, loadCells, loadCellsFrom]
     obtain ⟨base, c, hv, hc, olds, holds, hrold⟩ := hv
     have hol := cy holds
     obtain ⟨cap, rest, w', hc1, hc2, hr, hw1, hw2, hw3, hw4⟩ := x8 (w := w) (ty := type) (base := base) (n := n) (c := c) (olds := olds) (news := vals) hT hu hye hu2 hni hz hzl hb0 hlen hc hbig hrold (fun w' ho => (hrun w' ho).2)
     have ho : zz w w' := fun k hk => by rw [hw1, Array.getElem?_push, if_neg (by omega)]
     have hk1 := ho.keeps h.imm
     have hmv := h.move (l' := ds.map A.d ++ cs.map A.d) hl' rfl hbK hw1 hw2 hw3 hw4 (by simp; omega) (fun j z hj => by
      rw [List.getElem?_append] at hj
      simp only [List.length_map] at hj
      split at hj
      ·rename_i hlt
       simp only [List.getElem?_map, Option.map_eq_some_iff] at hj
       obtain ⟨y, hy, rfl⟩ := hj
       obtain ⟨u, hu', hR⟩ := ig holds hy
       refine ⟨u, uz _ _ _ ?_, by simp only [AR]; exact DR.mono (fun _ _ h => h) hk1 hR⟩
       have hlt2 : j < olds.length := by omega
       rw [List.getElem?_append, if_pos hlt2]; exact hu'
      ·rename_i hlt
       simp only [List.getElem?_map, Option.map_eq_some_iff] at hj
       obtain ⟨y, hy, rfl⟩ := hj
       have hlt2 : j - ds.length < cs.length := (List.getElem?_eq_some_iff.1 hy).1
       obtain ⟨u, hu', hR⟩ := ig hcR hy
       refine ⟨u, uz _ _ _ ?_, by simp only [AR]; exact DR.mono (fun _ _ h => h) hk1 hR⟩
       rw [List.getElem?_append, if_neg (by omega), hol]; exact hu')
     refine ⟨_, _, _, w', _, hK, hexec (by rw [hv]; exact hr), hmv, ?_, rfl⟩
     simp only [AR]
     refine .inl ⟨w.heap.size, by simp [Own.set], cap, olds.toArray ++ vals.toArray ++ rest, e, (0, 0), rfl, by omega, by rw [hw1]; simp, ?_⟩
     have e5 : vals.length = m * ye.size := by omega
     have e6 : olds.length = n * ye.size := by omega
     have e7 : cap * ye.size = (n + m) * ye.size + (cap - (n + m)) * ye.size := by rw [← Nat.add_mul]; congr 1; omega
     simp [hc2, e5, e6]
     rw [e7, Nat.add_mul]
     omega
   ·exact hk.elim
  ·exact hk.elim
 ·exact hk.elim
theorem avf : ∀ {x : D} {v : Value}, DR S w x v → DR S w x.dn v := by
 have key : ∀ {x : D} {v : Value}, DR S w x v → DR S w (match x with | .nil => .slice 0 [] | x => x) v := by
  intro x v h
  split
  ·simp only [DR] at h ⊢
   exact ⟨none, 0, h, Nat.le_refl _, .inl (by first | trivial | rfl)⟩
  ·exact h
 have keys : ∀ {l : List D} {vs : List Value}, DRs S w l vs → DRs S w (l.map fun | .nil => .slice 0 [] | x => x) vs := by
  intro l vs h
  refine qj (by simpa using cy h) fun j x u hj hu => ?_
  simp only [List.getElem?_map, Option.map_eq_some_iff] at hj
  obtain ⟨y, hy, rfl⟩ := hj
  obtain ⟨u', hu', hR⟩ := ig h hy
  rw [hu] at hu'; cases hu'
  have := key hR
  cases y <;> exact this
 intro x v h
 cases x with
 | nil => exact key h
 | agg l =>
  simp only [DR] at h
  obtain ⟨vs, hv, hl⟩ := h
  simp only [D.dn, DR]
  exact ⟨vs, hv, keys hl⟩
 | tup l =>
  simp only [DR] at h
  obtain ⟨vs, hv, hl⟩ := h
  simp only [D.dn, DR]
  refine ⟨vs, hv, qj (by simpa using cy hl) fun j x u hj hu => ?_⟩
  simp only [List.getElem?_map, Option.map_eq_some_iff] at hj
  obtain ⟨y, hy, rfl⟩ := hj
  obtain ⟨u', hu', hR⟩ := ig hl hy
  rw [hu] at hu'; cases hu'
  cases y with
  | agg m =>
   simp only [DR] at hR
   obtain ⟨us, hu2, hm⟩ := hR
   show DR S w (.agg _) u
   simp only [DR]
   exact ⟨us, hu2, keys hm⟩
  | nil => exact key hR
  | _ => exact hR
 | _ => exact h
def nk (β : Own) (σ : St) (bs : List Nat) (S : Imm) : Imm := fun k o => S k o ∨ ∃ b ∈ bs, β b = some (some k) ∧ ∃ l, σ.hp b = some (false, l) ∧ o < l.length
theorem acp (bs : List Nat) : S.le (nk β σ bs S) := fun _ _ h => .inl h
theorem akc (h : Rel G w0 M S0 σ a w β S) {bs : List Nat} {b k : Nat} {fr : Bool} {ds : List D} (hb : β b = some (some k)) (hl : σ.hp b = some (fr, ds.map A.d)) (hm : b ∈ bs) : DRL (nk β σ bs S) w k 0 ds := by
 cases fr with
 | true =>
  obtain ⟨ds', h1, h2⟩ := h.froz b k _ hb hl
  have : ds = ds' := by
   have := congrArg acg h1
   simpa using this
  subst this
  exact DRL.mono (acp bs) (fun _ _ _ => rfl) h2
 | false =>
  obtain ⟨C, Tc, hC, hlen, hc⟩ := h.rd b k _ _ hb hl
  simp only [List.length_map] at hlen
  refine acf fun j x hx => ?_
  have hlt : j < ds.length := (List.getElem?_eq_some_iff.1 hx).1
  rw [Nat.zero_add]
  refine ⟨.inr ⟨b, hm, hb, _, hl, by simpa using hlt⟩, ?_⟩
  obtain ⟨u, hu, hR⟩ := hc j (.d x) (by simp [hx])
  simp only [AR] at hR
  exact ⟨u, (jc hC j).trans hu, DR.mono (acp bs) (fun _ _ _ => rfl) hR⟩
theorem aav (h : Rel G w0 M S0 σ a w β S) {x : A} {v : Value} {K : D → List Nat → Prop} (hk : ij σ.hp x K) (hx : AR β S w x v) :
  ∃ d bs, K d bs ∧ (∀ b ∈ bs, ∃ (fr : Bool) (ds : List D), σ.hp b = some (fr, ds.map A.d)) ∧ ∀ bs', (∀ b ∈ bs, b ∈ bs') → DR (nk β σ bs' S) w d v := by
 unfold ij at hk
 split at hk
 ·rename_i y
  simp only [AR] at hx
  exact ⟨_, [], hk, by simp, fun bs' _ => DR.mono (acp bs') (fun _ _ _ => rfl) (avf hx)⟩
 ·rename_i b o n sz
  split at hk
  ·rename_i fr l hl
   obtain ⟨ds, rfl, y, rfl, hK⟩ := hk
   refine ⟨_, [b], hK, fun c hc => by simp at hc; subst hc; exact ⟨fr, ds, hl⟩, fun bs' hbs => ?_⟩
   simp only [AR] at hx
   simp only [DR]
   rcases hx with ⟨k, hk, c, C, Tc, fr', rfl, hc, hC, hle⟩ | ⟨rfl, hbn, a', rfl⟩
   ·refine ⟨_, c, rfl, hc, .inr ⟨k, o, rfl, ?_⟩⟩
    have := akc h (bs := bs') hk hl (hbs b (by simp))
    have := alr (s8 this o) (n * sz)
    rwa [Nat.zero_add] at this
   ·exact ⟨a', 0, rfl, Nat.le_refl _, .inl (by simp)⟩
  ·exact hk.elim
 ·rename_i b o
  split at hk
  ·rename_i fr l hl
   obtain ⟨ds, rfl, hK⟩ := hk
   refine ⟨_, [b], hK, fun c hc => by simp at hc; subst hc; exact ⟨fr, ds, hl⟩, fun bs' hbs => ?_⟩
   simp only [AR] at hx
   simp only [DR]
   obtain ⟨k, hk, rfl⟩ := hx
   have := s8 (akc h (bs := bs') hk hl (hbs b (by simp))) o
   rw [Nat.zero_add] at this
   exact ⟨k, o, rfl, this⟩
  ·exact hk.elim
 ·rename_i cells
  refine ⟨_, [], hk, by simp, fun bs' _ => ?_⟩
  simp only [AR] at hx
  simp only [DR]
  obtain ⟨k, o, hv, hd⟩ := hx
  exact ⟨k, o, hv, DRL.mono (acp bs') (fun _ _ _ => rfl) hd⟩
 ·exact hk.elim
theorem su (h : Rel G w0 M S0 σ a w β S) : ∀ {xs : List A} {vs : List Value} {K : List D → List Nat → Prop}, fc σ.hp xs K → ARs β S w xs vs →
  ∃ ds bs, K ds bs ∧ (∀ b ∈ bs, ∃ (fr : Bool) (l : List D), σ.hp b = some (fr, l.map A.d)) ∧ ∀ bs', (∀ b ∈ bs, b ∈ bs') → DRs (nk β σ bs' S) w ds vs
 | [], vs, K, hk, hx => by
  simp only [ARs] at hx
  subst hx
  exact ⟨[], [], hk, by simp, fun _ _ => rfl⟩
 | x :: xs, vs, K, hk, hx => by
  simp only [ARs] at hx
  obtain ⟨u, us, rfl, h1, h2⟩ := hx
  simp only [fc] at hk
  obtain ⟨d, bs, hk, hb1, hd⟩ := aav h hk h1
  obtain ⟨ds, bs2, hk, hb2, hds⟩ := su h hk h2
  refine ⟨_, _, hk, fun b hb => ?_, fun bs' hbs => ⟨u, us, rfl, hd bs' fun b hb => hbs b (by simp [hb]), hds bs' fun b hb => hbs b (by simp [hb])⟩⟩
  rcases List.mem_append.1 hb with hb | hb
  ·exact hb1 b hb
  ·exact hb2 b hb
theorem ob (h : Rel G w0 M S0 σ a w β S) {x : A} {v : Value} {K : D → List Nat → Prop} (hk : ma σ.hp x K) (hx : AR β S w x v) :
  ∃ d bs, K d bs ∧ (∀ b ∈ bs, ∃ (fr : Bool) (ds : List D), σ.hp b = some (fr, ds.map A.d)) ∧ ∀ bs', (∀ b ∈ bs, b ∈ bs') → DR (nk β σ bs' S) w d v := by
 unfold ma at hk
 split at hk
 ·rename_i l
  simp only [AR] at hx
  obtain ⟨vs, rfl, hx⟩ := hx
  obtain ⟨ds, bs, hk, hb, hds⟩ := su h hk hx
  refine ⟨_, bs, hk, hb, fun bs' hbs => ?_⟩
  simp only [DR]
  exact ⟨vs, rfl, hds bs' hbs⟩
 ·rename_i f l
  simp only [AR] at hx
  obtain ⟨vs, rfl, hx⟩ := hx
  obtain ⟨ds, bs, hk, hb, hds⟩ := su h hk hx
  refine ⟨_, bs, hk, hb, fun bs' hbs => ?_⟩
  simp only [DR]
  exact ⟨vs, rfl, hds bs' hbs⟩
 ·exact aav h hk hx
theorem aaw (h : Rel G w0 M S0 σ a w β S) : ∀ {xs : List A} {vs : List Value} {K : List D → List Nat → Prop}, ng σ.hp xs K → ARs β S w xs vs →
  ∃ ds bs, K ds bs ∧ (∀ b ∈ bs, ∃ (fr : Bool) (l : List D), σ.hp b = some (fr, l.map A.d)) ∧ ∀ bs', (∀ b ∈ bs, b ∈ bs') → DRs (nk β σ bs' S) w ds vs
 | [], vs, K, hk, hx => by
  simp only [ARs] at hx
  subst hx
  exact ⟨[], [], hk, by simp, fun _ _ => rfl⟩
 | x :: xs, vs, K, hk, hx => by
  simp only [ARs] at hx
  obtain ⟨u, us, rfl, h1, h2⟩ := hx
  simp only [ng] at hk
  obtain ⟨d, bs, hk, hb1, hd⟩ := ob h hk h1
  obtain ⟨ds, bs2, hk, hb2, hds⟩ := aaw h hk h2
  refine ⟨_, _, hk, fun b hb => ?_, fun bs' hbs => ⟨u, us, rfl, hd bs' fun b hb => hbs b (by simp [hb]), hds bs' fun b hb => hbs b (by simp [hb])⟩⟩
  rcases List.mem_append.1 hb with hb | hb
  ·exact hb1 b hb
  ·exact hb2 b hb
theorem acu (bs : List Nat) : ∀ (l : List (Nat × Bool × List A)) (t : Nat), lk (l.map fun x => (x.1, x.2.1 || bs.contains x.1, x.2.2)) t = (lk l t).map fun x => (x.1 || bs.contains t, x.2)
 | [], t => rfl
 | (k, x) :: l, t => by
  simp only [List.map_cons, lk]
  split
  ·rename_i e; subst e; rfl
  ·exact acu bs l t
theorem Rel.freeze (h : Rel G w0 M S0 σ a w β S) {bs : List Nat} (hb : ∀ b ∈ bs, ∃ (fr : Bool) (l : List D), σ.hp b = some (fr, l.map A.d)) : Rel G w0 M S0 (σ.freeze bs) a w β (nk β σ bs S) := by
 have hlt : ∀ b k, β b = some (some k) → k < w.heap.size := by
  intro b k hb
  have := h.keys b (by rw [hb]; simp)
  cases hl : lk σ.heap b with
  | none => exact absurd hl this
  | some x =>
   obtain ⟨fr, l⟩ := x
   obtain ⟨C, Tc, hC, _⟩ := h.rd b k fr l hb hl
   exact fp hC
 have hle := acp (β := β) (σ := σ) (S := S) bs
 have hk : ta S w w := fun _ _ _ => rfl
 have hsh : qo w w := fun k C Tc fr hk => ⟨C, hk, rfl⟩
 have hlook : ∀ b, lk (σ.freeze bs).heap b = (lk σ.heap b).map fun x => (x.1 || bs.contains b, x.2) := by
  intro b
  cases bs with
  | nil => simp [St.freeze]
  | cons b0 bs => exact acu _ _ _
 have henv : (σ.freeze bs).env = σ.env := by cases bs <;> rfl
 have hn : (σ.freeze bs).n = σ.n := by cases bs <;> rfl
 have hll : (fun (x : Bool × List A) => x) = fun x => x := rfl
 refine { h with size := ?_, env := ?_, glob := ?_, keys := ?_, rd := ?_, live := ?_, froz := ?_, fd := ?_, nilb := ?_, imm := ?_, old := ?_, small := by rw [hn]; exact h.small, stay := fun b h1 h2 hb => h.stay b h1 h2 fun e => hb (by rw [hlook, e]; rfl) }
 ·rw [hn]; exact h.size
 ·intro t x hx
  rw [henv] at hx
  exact AR.mono (fun _ _ h => h) hle hk hsh (h.env t x hx)
 ·exact fun g => DRL.mono hle hk (h.glob g)
 ·intro b hbk
  rw [hlook]
  have := h.keys b hbk
  cases hh : lk σ.heap b with
  | none => exact absurd hh this
  | some x => simp
 ·intro b k fr l hbk hl
  rw [hlook, Option.map_eq_some_iff] at hl
  obtain ⟨y, hy, e⟩ := hl
  obtain ⟨fr', l'⟩ := y
  cases e
  exact Rd.mono (fun _ _ h => h) hle hk hsh rfl (h.rd b k _ _ hbk hy)
 ·intro b k l hbk hl
  rw [hlook, Option.map_eq_some_iff] at hl
  obtain ⟨y, hy, e⟩ := hl
  obtain ⟨fr', l'⟩ := y
  simp only [Prod.mk.injEq, Bool.or_eq_false_iff] at e
  obtain ⟨⟨e1, e2⟩, rfl⟩ := e
  subst e1
  obtain ⟨h1, h2⟩ := h.live b k _ hbk hy
  refine ⟨fun o hS => ?_, h2⟩
  rcases hS with hS | ⟨c, hc, hck, l2, hl2, _⟩
  ·exact h1 o hS
  ·have := h.inj c b k hck hbk
   subst this
   simp at e2
   exact e2 hc
 ·intro b k l hbk hl
  rw [hlook, Option.map_eq_some_iff] at hl
  obtain ⟨y, hy, e⟩ := hl
  obtain ⟨fr', l'⟩ := y
  simp only [Prod.mk.injEq] at e
  obtain ⟨e1, rfl⟩ := e
  cases fr' with
  | true =>
   obtain ⟨ds, h1, h2⟩ := h.froz b k _ hbk hy
   exact ⟨ds, h1, DRL.mono hle hk h2⟩
  | false =>
   simp at e1
   obtain ⟨fr, ds, hds⟩ := hb b e1
   have : lk σ.heap b = some (fr, ds.map A.d) := hds
   rw [hy] at this
   cases this
   exact ⟨ds, rfl, akc h hbk hy e1⟩
 ·intro b l hl
  rw [hlook, Option.map_eq_some_iff] at hl
  obtain ⟨y, hy, e⟩ := hl
  obtain ⟨fr', l'⟩ := y
  simp only [Prod.mk.injEq] at e
  obtain ⟨e1, rfl⟩ := e
  cases fr' with
  | true => exact h.fd b _ hy
  | false =>
   simp at e1
   obtain ⟨fr, ds, hds⟩ := hb b e1
   have : lk σ.heap b = some (fr, ds.map A.d) := hds
   rw [hy] at this
   cases this
   exact ⟨ds, rfl⟩
 ·intro b fr l hbk hl
  rw [hlook, Option.map_eq_some_iff] at hl
  obtain ⟨y, hy, e⟩ := hl
  obtain ⟨fr', l'⟩ := y
  cases e
  exact h.nilb b _ _ hbk hy
 ·intro k o hS
  rcases hS with hS | ⟨c, hc, hck, _⟩
  ·exact h.imm k o hS
  ·exact hlt c k hck
 ·intro k o hS hlt0
  rcases hS with hS | ⟨c, hc, hck, l, hl, _⟩
  ·exact h.old k o hS hlt0
  ·rcases (h.live c k l hck hl).2 with h1 | h1
   ·omega
   ·exact .inr h1
end
end Go.Ev

namespace Go.Ev
open Go
section
variable {P : Program} {G : bb} {T : Tab} {w0 : World} {M : Own} {S0 : Imm} {σ : St} {a : Act} {w w' : World} {β : Own} {S : Imm}
def z5 (G : bb) (w0 : World) (M : Own) (S0 : Imm) (n : Nat) (K : St → Prop) (a : Act) (w : World) : Prop :=
 ∃ σ β S, K σ ∧ Rel G w0 M S0 σ a w β S ∧ σ.n = n
theorem p5 {f : FuncId} (h : ju P f = true) (args : Array Value) : (callFunc f args).run P w = .ok (.enter f args) w := by
 unfold ju at h
 split at h
 ·rename_i fn hf
  simp only [Bool.and_eq_true, Bool.not_eq_true'] at h
  have h1 : fn.body.isNone = false := by
   cases hb : fn.body with
   | none => rw [hb] at h; simp at h
   | some _ => rfl
  simp only [callFunc, Sem.run_bind, run_program, Result.andThen_ok, hf, h.2, h1]
  simp
 ·cases h
theorem ajl {β : Own} {S : Imm} {w : World} : ∀ {xs ys : List A} {us vs : List Value}, ARs β S w xs us → ARs β S w ys vs → ARs β S w (xs ++ ys) (us ++ vs)
 | [], ys, us, vs, h, k => by
  simp only [ARs] at h; subst h; exact k
 | x :: xs, ys, us, vs, h, k => by
  simp only [ARs] at h
  obtain ⟨u, us', rfl, h1, h2⟩ := h
  simp only [List.cons_append, ARs]
  exact ⟨u, us' ++ vs, rfl, h1, ajl h2 k⟩
theorem xb (h : Rel G w0 M S0 σ a w β S) {o : Oper} {f : FuncId} {xs : List A} {vals : List Value} (hx : ARs β S w xs vals) (hexec : ju P f = true → (execOp a.eval o).run P w = .ok (.enter f vals.toArray) w) {K : A → St → Prop}
  (hk : ng σ.hp xs fun ds bs => aa P G f ds fun fresh r => K (.d r) (if fresh then σ else σ.freeze bs)) (Q : Exit → Act → World → Prop) (next : Act → World → Prop)
  (hn : ∀ r σ' v w' β' S', K r σ' → Rel G w0 M S0 σ' a w' β' S' → AR β' S' w' r v → σ'.n = σ.n → next (a.put o.dst v) w') : o.wp P a w next Q := by
   obtain ⟨ds, bs, hk, hb, hds⟩ := aaw h hk hx
   obtain ⟨fresh, r, ⟨hcall, hsim⟩, hK⟩ := hk
   have hfr := h.freeze hb
   have hd := hds bs (fun _ hb => hb)
   unfold Oper.wp
   rw [hexec hcall, Oper.upon_enter]
   refine Calls.mono (by exact hsim (nk β σ bs S) w _ hfr.imm hfr.glob hd) ?_
   rintro e w' ⟨v, rfl, hbel, S', hS', hR⟩
   simp only
   have ho : zz w w' := fun k hk => hbel.block k hk
   cases fresh with
   | true =>
    let S2 : Imm := fun k o => S k o ∨ S' k o
    have hr2 := h.olds (S' := S2) ho hbel.os hbel.tape hbel.output hbel.size (fun _ _ h => .inl h) (fun k o hk => by
     rcases hk with hk | hk
     ·exact .inl hk
     ·rcases hS' k o hk with ⟨h1, _⟩ | h1
      ·cases h1
      ·exact .inr h1)
    exact hn (.d r) σ v w' β S2 hK hr2 (by simp only [AR]; exact DR.mono (fun _ _ h => .inr h) (fun _ _ _ => rfl) hR) rfl
   | false =>
    let S2 : Imm := fun k o => nk β σ bs S k o ∨ S' k o
    have hr2 := hfr.olds (S' := S2) ho hbel.os hbel.tape hbel.output hbel.size (fun _ _ h => .inl h) (fun k o hk => by
     rcases hk with hk | hk
     ·exact .inl hk
     ·rcases hS' k o hk with ⟨_, h1⟩ | h1
      ·exact .inl h1
      ·exact .inr h1)
    exact hn (.d r) _ v w' β S2 hK hr2 (by simp only [AR]; exact DR.mono (fun _ _ h => .inr h) (fun _ _ _ => rfl) hR) (by cases bs <;> rfl)
theorem aa1 (h : Rel G w0 M S0 σ a w β S) {o : Oper} {K : A → St → Prop} (hk : sw P G σ o.op K) (Q : Exit → Act → World → Prop) (next : Act → World → Prop)
  (hn : ∀ r σ' v w' β' S', K r σ' → Rel G w0 M S0 σ' a w' β' S' → AR β' S' w' r v → σ'.n = σ.n → next (a.put o.dst v) w') : o.wp P a w next Q := by
 obtain ⟨dst, op, type, pos, after, guard⟩ := o
 simp only at hk hn
 unfold sw at hk
 split at hk
 ·rename_i c
  obtain ⟨callee, args, argTypes⟩ := c
  simp only at hk
  split at hk
  ·rename_i f
   have hexec : ju P f = true → (execOp a.eval ⟨dst, .call ⟨.value (.func f), args, argTypes⟩, type, pos, after, guard⟩).run P w = .ok (.enter f (args.toList.map a.eval).toArray) w := fun hcall => by
    have harr : (args.toList.map a.eval).toArray = args.map a.eval := by cases args; simp
    rw [harr]
    simp only [execOp, Sem.run_bind, resolve, Act.eval, Deferred.ofValue]
    simp [invoke, p5 hcall]
   exact xb h (ARs.map (fun x => h.ev x) args.toList) hexec hk Q next hn
  ·rename_i x _
   have hx := h.ev x
   split at hk
   ·rename_i f cs e
    rw [e] at hx
    simp only [AR] at hx
    obtain ⟨vs, hv, hcs⟩ := hx
    have hexec : ju P f = true → (execOp a.eval ⟨dst, .call ⟨.value x, args, argTypes⟩, type, pos, after, guard⟩).run P w = .ok (.enter f (args.toList.map a.eval ++ vs.toList).toArray) w := fun hc => by
     have harr : (args.toList.map a.eval ++ vs.toList).toArray = args.map a.eval ++ vs := by cases args; cases vs; simp
     rw [harr]
     simp only [execOp, Sem.run_bind, resolve]
     rw [hv]
     simp [Deferred.ofValue, invoke, p5 hc]
    exact xb h (ajl (ARs.map (fun x => h.ev x) args.toList) hcs) hexec hk Q next hn
   ·exact hk.elim
  ·exact hk.elim
 ·exact hk.elim
theorem ve (hT : b6 P T) (h : Rel G w0 M S0 σ a w β S) {o : Oper} (hd : ∀ d, o.dst = some d → d < σ.n) {K : St → Prop} (hk : ni P G T σ o K) (Q : Exit → Act → World → Prop) :
  o.wp P a w (z5 G w0 M S0 σ.n K) Q := by
 unfold ni at hk
 split at hk
 ·obtain ⟨r, v, hK, hR, hrun⟩ := an9 (P := P) hT h.hrd (fun x => h.ev x) o hk
  rw [St.bq] at hK
  unfold Oper.wp
  rw [hrun, Oper.upon_value]
  exact ⟨_, β, S, hK, h.put hR hd, by cases o.dst <;> rfl⟩
 ·split at hk
  ·rename_i d hdst
   obtain ⟨hf0, hk⟩ := hk
   have hf : lk σ.heap d = none := by simpa [St.hp] using hf0
   obtain ⟨r, l, v, w', β', hK, hrun, hrel, hR⟩ := am1 (P := P) hT h hf (Nat.lt_of_lt_of_le (hd d hdst) h.small) hk
   rw [St.bq] at hK
   unfold Oper.wp
   rw [hrun, Oper.upon_value]
   refine ⟨_, β', S, hK, ?_, rfl⟩
   rw [hdst]
   exact hrel.put hR (fun d' hd' => by cases hd'; exact hd d hdst)
  ·exact hk.elim
 ·-- memory is written
  obtain ⟨dst, op, type, pos, after, guard⟩ := o
  simp only at hk hd
  cases op with
  | store t ad x =>
   have hk2 : uv T G σ none (.store t ad x) (fun r σ' => σ'.kt dst r K) := by
    unfold uv at hk ⊢; exact hk
   obtain ⟨r, σ', w', hK, hrun, hrel, hr, hn⟩ := an5 (P := P) hT h hk2
   rw [St.bq] at hK
   have hrun2 : (execOp a.eval ⟨dst, .store t ad x, type, pos, after, guard⟩).run P w = .ok .skip w' := by
    simp [execOp, hrun]
   unfold Oper.wp
   rw [hrun2, Oper.upon_skip]
   refine ⟨_, β, S, hK, hrel.put (by rw [hr]; simp [AR, DR]) (fun d hd' => by rw [hn]; exact hd d hd'), ?_⟩
   cases dst <;> exact hn
  | call c =>
   cases dst with
   | none =>
    exfalso
    unfold uv at hk
    simp only at hk
    split at hk
    ·rename_i hh
     cases hh
    ·exact hk
   | some d =>
    obtain ⟨r, σ', v, w', β', hK, hrun, hrel, hR, hn⟩ := ajt (P := P) hT h (Nat.lt_of_lt_of_le (hd d rfl) h.small) (o := ⟨some d, .call c, type, pos, after, guard⟩) rfl hk
    rw [St.bq] at hK
    unfold Oper.wp
    rw [hrun, Oper.upon_value]
    exact ⟨_, β', S, hK, hrel.put hR (fun d' hd' => by rw [hn]; exact hd d' hd'), hn⟩
  | _ => exact hk.elim
 ·refine aa1 h hk Q _ ?_
  intro r σ' v w' β' S' hK hrel hR hn
  rw [St.bq] at hK
  exact ⟨_, β', S', hK, hrel.put hR (fun d hd' => by rw [hn]; exact hd d hd'), by rw [← hn]; cases o.dst <;> rfl⟩
theorem z5.mono {n : Nat} {K K' : St → Prop} (h : z5 G w0 M S0 n K a w) (hk : ∀ σ, K σ → K' σ) : z5 G w0 M S0 n K' a w :=
 let ⟨σ, β, S, h1, h2, h3⟩ := h
 ⟨σ, β, S, hk σ h1, h2, h3⟩
theorem Rel.setBool (h : Rel G w0 M S0 σ a w β S) {g : Nat} {t : Bool} (hg : σ.get g = .d (.bool t)) (b : Bool) (hb : t = b) : Rel G w0 M S0 (σ.put (some g) (.d (.bool b))) a w β S := by
 have hv := h.get g
 rw [hg] at hv
 simp only [AR, DR] at hv
 refine { h with size := ?_, env := ?_ }
 ·exact h.size
 ·intro t' x hx
  simp only [St.put, lk] at hx
  split at hx
  ·rename_i e
   subst e
   cases hx
   rw [hv, hb]
   exact AR.bool b
  ·exact h.env t' x hx
theorem ahr (h : Rel G w0 M S0 σ a w β S) {ops : Array Oper} {o : Oper} {yes no : St → Prop} (hk : pg ops σ o yes no) :
  ∃ σ', Rel G w0 M S0 σ' a w β S ∧ σ'.n = σ.n ∧ ((Region.wanted o (yielded ops a.tmps) = true ∧ yes σ') ∨ (Region.wanted o (yielded ops a.tmps) = false ∧ no σ')) := by
 unfold pg at hk
 split at hk
 ·rename_i hg
  exact ⟨σ, h, rfl, .inl ⟨by simp [Region.wanted, hg], hk⟩⟩
 ·rename_i j want hg
  split at hk
  ·exact hk.elim
  ·rename_i g hgt
   have hy : yielded ops a.tmps j = match a.tmps[g]? with | some (.bool b) => some b | _ => none := by
    unfold yielded
    unfold ake at hgt
    rw [hgt]
    rfl
   have hv := h.get g
   split at hk
   ·rename_i t ht
    rw [ht] at hv
    simp only [AR, DR] at hv
    have ha : a.tmps[g]? = some (.bool t) := by
     rw [Array.getD_eq_getD_getElem?] at hv
     cases hq : a.tmps[g]? with
     | none => rw [hq] at hv; simp [undef] at hv
     | some u => rw [hq] at hv; simp at hv; rw [hv]
    rw [ha] at hy
    cases want with
    | true =>
     cases t with
     | true => exact ⟨_, h.setBool ht true rfl, rfl, .inl ⟨by simp [Region.wanted, hg, hy], by have := hk.tt rfl; rwa [St.bq] at this⟩⟩
     | false => exact ⟨_, h.setBool ht false rfl, rfl, .inr ⟨by simp [Region.wanted, hg, hy], by have := hk.ff rfl; rwa [St.bq] at this⟩⟩
    | false =>
     cases t with
     | true => exact ⟨_, h.setBool ht true rfl, rfl, .inr ⟨by simp [Region.wanted, hg, hy], by have := hk.tt rfl; rwa [St.bq] at this⟩⟩
     | false => exact ⟨_, h.setBool ht false rfl, rfl, .inl ⟨by simp [Region.wanted, hg, hy], by have := hk.ff rfl; rwa [St.bq] at this⟩⟩
   ·rename_i ht
    rw [ht] at hv
    simp only [AR, DR, DRs] at hv
    obtain ⟨vs, hv, hvs⟩ := hv
    refine ⟨σ, h, rfl, .inr ⟨?_, hk⟩⟩
    have hn : yielded ops a.tmps j = none := by
     rw [hy]
     rw [Array.getD_eq_getD_getElem?] at hv
     cases hq : a.tmps[g]? with
     | none => rfl
     | some u => rw [hq] at hv; simp at hv; subst hv; rfl
    simp [Region.wanted, hg, hn]
   ·exact hk.elim
theorem y9 (h : Rel G w0 M S0 σ a w β S) (dst : Option Nat) (hd : ∀ d, dst = some d → d < σ.n) : Rel G w0 M S0 (σ.put dst (.d (.tup []))) (a.put dst undef) w β S :=
 h.put (by simp only [AR, DR, DRs]; exact ⟨#[], rfl, rfl⟩) hd
theorem v8 {ops : Array Oper} {i : Nat} {o : Oper} {K : Act → World → Prop} {Q : Exit → Act → World → Prop} (hi : ops[i]? = some o) (hw : Region.wanted o (yielded ops a.tmps) = true) (h : o.wp P a w K Q) : wpOp P ops Q i K a w := by
 simp only [wpOp, hi, hw, if_true]
 exact .inl h
end
end Go.Ev

namespace Go.Ev
open Go
def Det (F : (A → Prop) → Prop) : Prop := ∀ K, F K → ∃ r, K r ∧ ∀ K', K' r → F K'
section
variable {T : Tab} {hp : Nat → Option (Bool × List A)}
theorem Det.bg {t : Nat} {F : Nat → Ty → (A → Prop) → Prop} (h : ∀ e y, Det (F e y)) : Det (fun K => Ev.bg T t fun e y => F e y K) := by
 intro K hk
 unfold Ev.bg at hk ⊢
 split at hk
 ·split at hk
  ·split at hk
   ·obtain ⟨r, h1, h2⟩ := h _ _ K hk
    exact ⟨r, h1, fun K' h' => h2 K' h'⟩
   ·exact hk.elim
  ·exact hk.elim
 ·exact hk.elim
theorem Det.ix {t : Nat} {F : Nat → Nat → Ty → (A → Prop) → Prop} (h : ∀ n e y, Det (F n e y)) : Det (fun K => Ev.ix T t fun n e y => F n e y K) := by
 intro K hk
 unfold Ev.ix at hk ⊢
 split at hk
 ·split at hk
  ·split at hk
   ·obtain ⟨r, h1, h2⟩ := h _ _ _ K hk
    exact ⟨r, h1, fun K' h' => h2 K' h'⟩
   ·exact hk.elim
  ·exact hk.elim
 ·exact hk.elim
theorem Det.mz {t : Nat} {F : List (Nat × Nat × Bool) → (A → Prop) → Prop} (h : ∀ l, Det (F l)) : Det (fun K => Ev.mz T t fun l => F l K) := by
 intro K hk
 unfold Ev.mz at hk ⊢
 split at hk
 ·split at hk
  ·obtain ⟨r, h1, h2⟩ := h _ K hk
   exact ⟨r, h1, fun K' h' => h2 K' h'⟩
  ·exact hk.elim
 ·exact hk.elim
theorem Det.pure (r : A) : Det (fun K => K r) := fun _ h => ⟨r, h, fun _ h' => h'⟩
theorem Det.cd {c : Prop} {F : (A → Prop) → Prop} (h : Det F) : Det (fun K => Cd c (F K)) := fun K hk =>
 let ⟨r, h1, h2⟩ := h K hk.k
 ⟨r, h1, fun K' h' => ⟨hk.c, h2 K' h'⟩⟩
theorem Det.false : Det (fun _ => False) := fun _ h => h.elim
theorem Det.eqE {α : Type} {x : α} {f : α → A} : Det (fun K => EqE x fun y => K (f y)) := fun K ⟨y, hy, hk⟩ => ⟨_, hk, fun K' h' => ⟨y, hy, h'⟩⟩
theorem Det.nth {α : Type} {l : List α} {i : Nat} {f : α → A} : Det (fun K => ah l i fun x => K (f x)) := fun K ⟨x, hx, hk⟩ => ⟨_, hk, fun K' h' => ⟨x, hx, h'⟩⟩
theorem Det.tk {α : Type} {l : List α} {o s : Nat} {f : List α → A} : Det (fun K => TkE l o s fun x => K (f x)) := fun K ⟨x, hx, hl, hk⟩ => ⟨_, hk, fun K' h' => ⟨x, hx, hl, h'⟩⟩
theorem Det.bound {x : Option A} {d : Int} {F : Int → (A → Prop) → Prop} (h : ∀ i, Det (F i)) : Det (fun K => k9 x d fun i => F i K) := by
 intro K hk
 unfold k9 at hk ⊢
 split at hk
 ·obtain ⟨r, h1, h2⟩ := h _ K hk
  exact ⟨r, h1, fun K' h' => h2 K' h'⟩
 ·obtain ⟨r, h1, h2⟩ := h _ K hk
  exact ⟨r, h1, fun K' h' => h2 K' h'⟩
 ·exact hk.elim
theorem ape (op : BinOp) (k : IntKind) (x y : Int) : Det (apd op k x y) := by
 cases op <;> first | exact Det.pure _ | exact Det.eqE | exact Det.cd Det.eqE | exact Det.false
def alb (T : Tab) (xT : Nat) : Bool := !((T xT).any Ty.at4)
theorem ath {op : BinOp} {xT : Nat} {a b : A} (hs : alb T xT = true) : Det (alw T op xT a b) := by
 intro K h
 unfold alw at h ⊢
 split at h
 ·split at h
  ·exact Det.cd Det.eqE K h
  ·exact Det.cd Det.eqE K h
  ·rename_i h1 h2
   obtain ⟨r, h3, h4⟩ := Det.cd (ape _ _ _ _) K h
   exact ⟨r, h3, fun K' h' => h4 K' h'⟩
 ·obtain ⟨hc, h⟩ := h
  split at h
  ·exact ⟨_, h, fun K' h' => ⟨hc, h'⟩⟩
  ·exact ⟨_, h, fun K' h' => ⟨hc, h'⟩⟩
  ·exact h.elim
 ·split at h
  ·exact Det.cd (Det.pure _) K h
  all_goals first | exact ⟨_, h, fun K' h' => h'⟩ | exact h.elim
 ·exfalso
  have hc := h.c
  unfold alb at hs
  rw [hc] at hs
  exact absurd hs (by decide)
 ·exact h.elim
theorem azg {op : UnOp} {a : A} : Det (azf op a) := by
 intro K h
 unfold azf at h ⊢
 split at h
 all_goals first | exact Det.eqE K h | exact ⟨_, h, fun K' h' => h'⟩ | exact h.elim
theorem agv {g : Bool} {o s : Nat} {x : A} : Det (aae g o s x) := by
 intro K h
 unfold aae at h ⊢
 split at h
 ·split at h
  ·exact Det.tk K h
  ·exact Det.nth K h
 ·split at h
  ·exact Det.tk K h
  ·exact Det.nth K h
 ·exact h.elim
theorem apm {t : Nat} {a : A} : Det (vm T hp t a) := by
 intro K h
 unfold vm at h ⊢
 split at h
 ·split at h
  ·split at h
   ·split at h
    ·exact Det.tk K h
    ·exact Det.nth K h
   ·exact h.elim
  ·split at h
   ·exact Det.tk K h
   ·exact Det.nth K h
  ·exact h.elim
 ·exact h.elim
theorem aec {s f : Nat} {a : A} : Det (ry T s a f) := by
 unfold ry
 refine Det.mz fun l => ?_
 intro K h
 split at h
 ·split at h
  ·exact ⟨_, h, fun K' h' => h'⟩
  ·exact ⟨_, h, fun K' h' => h'⟩
  ·exact h.elim
 ·exact h.elim
theorem ame {s f : Nat} {a : A} : Det (aeq T s a f) := by
 unfold aeq
 refine Det.mz fun l => ?_
 intro K h
 split at h
 ·exact agv K h
 ·exact h.elim
theorem aed {t : Nat} {x i : A} : Det (oi T t x i) := by
 intro K h
 unfold oi at h ⊢
 split at h
 ·split at h
  ·exact Det.bg (fun _ _ => Det.cd (Det.pure _)) K h
  ·exact Det.bg (fun _ _ => Det.cd (Det.cd (Det.pure _))) K h
  ·exact Det.ix (fun _ _ _ => Det.cd (Det.pure _)) K h
  ·exact Det.ix (fun _ _ _ => Det.cd (Det.pure _)) K h
  ·exact h.elim
 ·exact h.elim
theorem ami {t : Nat} {x i : A} : Det (abj T t x i) := by
 intro K h
 unfold abj at h ⊢
 split at h
 ·split at h
  ·exact Det.cd (Det.cd Det.eqE) K h
  ·rename_i h1
   obtain ⟨r, h3, h4⟩ := Det.ix (fun _ _ _ => Det.cd agv) K h
   exact ⟨r, h3, fun K' h' => h4 K' h'⟩
 ·exact h.elim
theorem ao0 {s d : Nat} {a : A} : Det (afq T s d a) := by
 intro K h
 unfold afq at h ⊢
 split at h
 ·obtain ⟨hc, h⟩ := h
  split at h
  ·split at h
   ·obtain ⟨z, hz, h⟩ := h
    exact ⟨_, h, fun K' h' => ⟨hc, z, hz, h'⟩⟩
   ·exact h.elim
  ·exact h.elim
 ·exact Det.cd (Det.cd (Det.pure _)) K h
 ·exact h.elim
theorem yv {place : Nat → Option (Nat × Nat)} : ∀ {parts : List (Nat × A)} {cells : List A} {K : List A → Prop}, abe place cells parts K → ∃ c, K c ∧ ∀ K', K' c → abe place cells parts K'
 | [], cells, K, h => ⟨cells, h, fun _ h' => h'⟩
 | (i, v) :: rest, cells, K, h => by
  simp only [abe] at h ⊢
  split at h
  ·exact h.elim
  ·obtain ⟨h1, h2, h3, h⟩ := h
   rw [je] at h
   obtain ⟨c, h4, h5⟩ := yv h
   exact ⟨c, h4, fun K' h' => ⟨h1, h2, h3, by rw [je]; exact h5 K' h'⟩⟩
theorem alz {t : Nat} {parts : List (Nat × A)} : Det (aaz T t parts) := by
 intro K h
 unfold aaz at h ⊢
 split at h
 ·obtain ⟨hc, h⟩ := h
  split at h
  ·obtain ⟨c, h4, h5⟩ := yv h
   exact ⟨_, h4, fun K' h' => ⟨hc, h5 _ h'⟩⟩
  ·split at h
   ·obtain ⟨c, h4, h5⟩ := yv h
    exact ⟨_, h4, fun K' h' => ⟨hc, h5 _ h'⟩⟩
   ·exact h.elim
  ·exact h.elim
 ·exact h.elim
theorem an0 {t : Nat} {x : A} {lo hi mx : Option A} : Det (sj T hp t x lo hi mx) := by
 intro K h
 unfold sj at h ⊢
 split at h
 ·exact h.elim
 ·split at h
  ·exact Det.cd (Det.bound fun _ => Det.bound fun _ => Det.cd (Det.pure _)) K h
  ·exact Det.bg (fun _ _ => Det.bound fun _ => Det.bound fun _ => Det.cd Det.eqE) K h
  ·exact Det.bg (fun _ _ => Det.cd (Det.bound fun _ => Det.bound fun _ => Det.cd (Det.pure _))) K h
  ·split at h
   ·exact Det.ix (fun _ _ _ => Det.cd (Det.bound fun _ => Det.bound fun _ => Det.cd (Det.pure _))) K h
   ·exact h.elim
  ·exact h.elim
theorem at6 {t : Nat} {x : A} : Det (amo T t x) := by
 intro K h
 unfold amo at h ⊢
 split at h
 ·exact Det.bg (fun _ _ => Det.pure _) K h
 ·exact Det.bg (fun _ _ => Det.pure _) K h
 ·exact Det.bg (fun _ _ => Det.pure _) K h
 ·exact Det.cd (Det.pure _) K h
 ·rename_i h1 h2 h3 h4
  obtain ⟨r, h5, h6⟩ := Det.ix (fun _ _ _ => Det.pure _) K h
  exact ⟨r, h5, fun K' h' => h6 K' h'⟩
theorem aiu {b : Bool} {l : List A} : Det (ait b l) := by
 intro K h
 unfold ait at h ⊢
 split at h
 ·exact Det.eqE K h
 ·exact h.elim
theorem ahs {x : A} {i : Nat} : Det (tu x i) := by
 intro K h
 unfold tu at h ⊢
 split at h
 ·exact Det.nth K h
 ·exact h.elim
theorem ap1 {c a b : A} : Det (agx c a b) := by
 intro K h
 unfold agx at h ⊢
 split at h
 ·rename_i t
  cases t with
  | true => exact ⟨_, h.tt rfl, fun K' h' => ⟨fun _ => h', (fun e => nomatch e)⟩⟩
  | false => exact ⟨_, h.ff rfl, fun K' h' => ⟨(fun e => nomatch e), fun _ => h'⟩⟩
 ·exact h.elim
def x9 (T : Tab) : Op → Bool
 | .binOp _ xT _ _ _ => alb T xT
 | _ => true
theorem au7 {ev : Operand → A} {op : Op} (hs : x9 T op = true) : Det (ft T ev hp op) := by
 intro K h
 unfold ft at h ⊢
 split at h
 ·exact ⟨_, h, fun K' h' => h'⟩
 ·exact ⟨_, h, fun K' h' => h'⟩
 ·exact ap1 K h
 ·exact alz K h
 ·exact apm K h
 ·split at h
  ·exact ⟨_, h, fun K' h' => h'⟩
  ·exact ⟨_, h, fun K' h' => h'⟩
  ·exact h.elim
 ·exact ath hs K h
 ·exact azg K h
 ·exact ao0 K h
 ·exact an0 K h
 ·exact aec K h
 ·exact ame K h
 ·exact aed K h
 ·exact ami K h
 ·exact ahs K h
 ·split at h
  ·split at h
   ·exact at6 K h
   ·exact h.elim
  ·exact aiu K h
  ·exact aiu K h
  ·exact h.elim
 ·split at h
  ·exact ⟨_, h, fun K' h' => h'⟩
  ·exact h.elim
 ·exact h.elim
mutual
def cv : A → Nat → Prop
 | .ptr b _, c => b = c
 | .own b _ _ _, c => b = c
 | .agg l, c => aai l c
 | .fn _ l, c => aai l c
 | _, _ => False
def aai : List A → Nat → Prop
 | [], _ => False
 | x :: l, c => cv x c ∨ aai l c
end
theorem at7 {hp' : Nat → Option (Bool × List A)} {t : Nat} {a : A} {K : A → Prop} (hh : ∀ b, cv a b → ∀ fr l, hp b = some (fr, l) → ∃ fr', hp' b = some (fr', l)) (h : vm T hp t a K) : vm T hp' t a K := by
 unfold vm at h ⊢
 split at h
 ·split at h
  ·rename_i b o
   split at h
   ·rename_i fr l hl
    obtain ⟨fr', hl'⟩ := hh b rfl fr l hl
    simp only [hl']
    exact h
   ·exact h.elim
  ·exact h
  ·exact h.elim
 ·exact h.elim
theorem aqq {hp' : Nat → Option (Bool × List A)} {t : Nat} {a : A} {lo hi mx : Option A} {K : A → Prop} (hh : ∀ b, cv a b → ∀ fr l, hp b = some (fr, l) → ∃ fr', hp' b = some (fr', l)) (h : sj T hp t a lo hi mx K) : sj T hp' t a lo hi mx K := by
 unfold sj at h ⊢
 split at h
 ·exact h.elim
 ·split at h
  ·exact h
  ·exact h
  ·exact h
  ·rename_i b o
   split at h
   ·rename_i fr l hl
    obtain ⟨fr', hl'⟩ := hh b rfl fr l hl
    simp only [hl']
    exact h
   ·exact h.elim
  ·exact h.elim
theorem xu {ev ev' : Operand → A} : ∀ {l : List (Nat × Operand)}, (∀ p ∈ l, ev' p.2 = ev p.2) → (l.map fun p => (p.1, ev' p.2)) = l.map fun p => (p.1, ev p.2)
 | [], _ => rfl
 | p :: l, h => by
  simp only [List.map_cons]
  rw [h p (by simp), xu fun q hq => h q (by simp [hq])]
theorem aoa {ev ev' : Operand → A} {hp' : Nat → Option (Bool × List A)} {op : Op} {K : A → Prop} (he : ∀ x ∈ op.operands, ev' x = ev x)
  (hh : ∀ x ∈ op.operands, ∀ b, cv (ev x) b → ∀ fr l, hp b = some (fr, l) → ∃ fr', hp' b = some (fr', l)) (h : ft T ev hp op K) : ft T ev' hp' op K := by
 cases op with
 | move x => simp only [ft] at h ⊢; rw [he x (by simp [Op.operands])]; exact h
 | assign x => simp only [ft] at h ⊢; rw [he x (by simp [Op.operands])]; exact h
 | pick c a b => simp only [ft] at h ⊢; rw [he c (by simp [Op.operands]), he a (by simp [Op.operands]), he b (by simp [Op.operands])]; exact h
 | build t ps =>
  simp only [ft] at h ⊢
  rw [xu fun p hp => he p.2 (by simp only [Op.operands]; simp; exact ⟨p.1, by simpa using hp⟩)]
  exact h
 | load t x =>
  simp only [ft] at h ⊢
  rw [he x (by simp [Op.operands])]
  exact at7 (hh x (by simp [Op.operands])) h
 | nilCheck x => simp only [ft] at h ⊢; rw [he x (by simp [Op.operands])]; exact h
 | binOp op xT x y yT => simp only [ft] at h ⊢; rw [he x (by simp [Op.operands]), he y (by simp [Op.operands])]; exact h
 | unOp op t x => simp only [ft] at h ⊢; rw [he x (by simp [Op.operands])]; exact h
 | convert s d x => simp only [ft] at h ⊢; rw [he x (by simp [Op.operands])]; exact h
 | slice t x lo hi mx =>
  simp only [ft] at h ⊢
  have e1 : lo.map ev' = lo.map ev := by cases lo with | none => rfl | some l => simp [he l (by simp [Op.operands])]
  have e2 : hi.map ev' = hi.map ev := by cases hi with | none => rfl | some l => simp [he l (by simp [Op.operands])]
  have e3 : mx.map ev' = mx.map ev := by cases mx with | none => rfl | some l => simp [he l (by simp [Op.operands])]
  rw [he x (by simp [Op.operands]), e1, e2, e3]
  exact aqq (hh x (by simp [Op.operands])) h
 | fieldAddr s x f => simp only [ft] at h ⊢; rw [he x (by simp [Op.operands])]; exact h
 | field s x f => simp only [ft] at h ⊢; rw [he x (by simp [Op.operands])]; exact h
 | indexAddr t x i => simp only [ft] at h ⊢; rw [he x (by simp [Op.operands]), he i (by simp [Op.operands])]; exact h
 | index t x i => simp only [ft] at h ⊢; rw [he x (by simp [Op.operands]), he i (by simp [Op.operands])]; exact h
 | extract x i => simp only [ft] at h ⊢; rw [he x (by simp [Op.operands])]; exact h
 | call c =>
  obtain ⟨callee, args, at_⟩ := c
  have hargs : args.toList.map ev' = args.toList.map ev := List.map_congr_left fun x hx => he x (by simp only [Op.operands, Call.operands]; simp; exact .inr (by simpa using hx))
  simp only [ft] at h ⊢
  split at h
  ·split at h
   ·rename_i t x ht hx
    rw [hx] at hargs
    simp only [List.map_cons, List.map_nil, List.cons.injEq, and_true] at hargs
    rw [hargs]
    exact h
   ·exact h.elim
  ·rw [hargs]; exact h
  ·rw [hargs]; exact h
  ·exact h.elim
 | makeFunc fn first caps =>
  have hc : caps.toList.map ev' = caps.toList.map ev := List.map_congr_left fun x hx => he x (by simp only [Op.operands]; simp; exact .inr (by simpa using hx))
  cases fn with
  | func f =>
   simp only [ft] at h ⊢
   split at h
   ·rename_i e
    rw [hc]; exact h
   ·exact h.elim
  | _ => exact h.elim
 | _ => exact h.elim
end
end Go.Ev
