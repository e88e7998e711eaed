/- One operation; one after another. -/
import Derived.Test.YtmgbegcamhkblaaDoorEvI
set_option linter.unusedSimpArgs false
set_option linter.unusedVariables false
namespace Go.Ev
open Go
section
variable {P : Program} {G : Glob} {T : Tab} {w0 : World} {M : Own} {S0 : Imm} {σ : St} {a : Act} {w w' : World} {β : Own} {S : Imm}

/-- Some state that K speaks of is related. -/
def Post (G : Glob) (w0 : World) (M : Own) (S0 : Imm) (n : Nat) (K : St → Prop) (a : Act) (w : World) : Prop :=
  ∃ σ β S, K σ ∧ Rel G w0 M S0 σ a w β S ∧ σ.n = n

theorem run_callFunc {f : FuncId} (h : callable P f = true) (args : Array Value) : (callFunc f args).run P w = .ok (.enter f args) w := by
  unfold callable at h
  split at h
  · rename_i fn hf
    simp only [Bool.and_eq_true, Bool.not_eq_true'] at h
    have h1 : fn.body.isNone = false := by
      cases hb : fn.body with
      | none => rw [hb] at h; simp at h
      | some _ => rfl
    simp only [callFunc, Sem.run_bind, run_program, Result.andThen_ok, hf, h.2, h1]
    simp
  · cases h

theorem callEv_sound (h : Rel G w0 M S0 σ a w β S) {o : Oper} {K : A → St → Prop} (hk : callEv P G σ o.op K) (Q : Exit → Act → World → Prop) (next : Act → World → Prop)
    (hn : ∀ r σ' v w' β' S', K r σ' → Rel G w0 M S0 σ' a w' β' S' → AR β' S' w' r v → σ'.n = σ.n → next (a.put o.dst v) w') : o.wp P a w next Q := by
  obtain ⟨dst, op, type, pos, after, guard⟩ := o
  simp only at hk hn
  unfold callEv at hk
  split at hk
  · rename_i c
    obtain ⟨callee, args, argTypes⟩ := c
    simp only at hk
    split at hk
    · rename_i f
      obtain ⟨ds, bs, hk, hb, hds⟩ := argsEv_sound h hk (ARs.map (fun x => h.ev x) args.toList)
      obtain ⟨fresh, r, ⟨hcall, hsim⟩, hK⟩ := hk
      have hfr := h.freeze hb
      have hd := hds bs (fun _ hb => hb)
      have hexec : (execOp a.eval ⟨dst, .call ⟨.value (.func f), args, argTypes⟩, type, pos, after, guard⟩).run P w = .ok (.enter f (args.map a.eval)) w := by
        simp only [execOp, Sem.run_bind, resolve, Act.eval, Deferred.ofValue]
        simp [invoke, run_callFunc hcall]
      unfold Oper.wp
      rw [hexec, Oper.upon_enter]
      have harr : (args.toList.map a.eval).toArray = args.map a.eval := by cases args; simp
      refine Calls.mono (by rw [← harr]; exact hsim (frzImm β σ bs S) w _ hfr.imm hfr.glob hd) ?_
      rintro e w' ⟨v, rfl, hbel, S', hS', hR⟩
      simp only
      have ho : Olds w w' := fun k hk => hbel.block k hk
      cases fresh with
      | true =>
        let S2 : Imm := fun k o => S k o ∨ S' k o
        have hr2 := h.olds (S' := S2) ho hbel.os hbel.tape hbel.output hbel.size (fun _ _ h => .inl h) (fun k o hk => by
          rcases hk with hk | hk
          · exact .inl hk
          · rcases hS' k o hk with ⟨h1, _⟩ | h1
            · cases h1
            · exact .inr h1)
        exact hn (.d r) σ v w' β S2 hK hr2 (by simp only [AR]; exact DR.mono (fun _ _ h => .inr h) (fun _ _ _ => rfl) hR) rfl
      | false =>
        let S2 : Imm := fun k o => frzImm β σ bs S k o ∨ S' k o
        have hr2 := hfr.olds (S' := S2) ho hbel.os hbel.tape hbel.output hbel.size (fun _ _ h => .inl h) (fun k o hk => by
          rcases hk with hk | hk
          · exact .inl hk
          · rcases hS' k o hk with ⟨_, h1⟩ | h1
            · exact .inl h1
            · exact .inr h1)
        exact hn (.d r) _ v w' β S2 hK hr2 (by simp only [AR]; exact DR.mono (fun _ _ h => .inr h) (fun _ _ _ => rfl) hR) (by cases bs <;> rfl)
    · exact hk.elim
  · exact hk.elim

theorem Act.put_none (a : Act) (v : Value) : a.put none v = a := rfl

/-- ONE OPERATION. -/
theorem evOp_sound (hT : TabOk P T) (h : Rel G w0 M S0 σ a w β S) {o : Oper} (hd : ∀ d, o.dst = some d → d < σ.n) {K : St → Prop} (hk : evOp P G T σ o K) (Q : Exit → Act → World → Prop) :
    o.wp P a w (Post G w0 M S0 σ.n K) Q := by
  unfold evOp at hk
  split at hk
  · obtain ⟨r, v, hK, hR, hrun⟩ := valEv_sound (P := P) hT h.hrd (fun x => h.ev x) o hk
    rw [St.putK_eq] at hK
    unfold Oper.wp
    rw [hrun, Oper.upon_value]
    exact ⟨_, β, S, hK, h.put hR hd, by cases o.dst <;> rfl⟩
  · split at hk
    · rename_i d hdst
      obtain ⟨hf0, hk⟩ := hk
      have hf : lk σ.heap d = none := by simpa [St.hp] using hf0
      obtain ⟨r, l, v, w', β', hK, hrun, hrel, hR⟩ := newEv_sound (P := P) hT h hf (Nat.lt_of_lt_of_le (hd d hdst) h.small) hk
      rw [St.putK_eq] at hK
      unfold Oper.wp
      rw [hrun, Oper.upon_value]
      refine ⟨_, β', S, hK, ?_, rfl⟩
      rw [hdst]
      exact hrel.put hR (fun d' hd' => by cases hd'; exact hd d hdst)
    · exact hk.elim
  · -- memory is written
    obtain ⟨dst, op, type, pos, after, guard⟩ := o
    simp only at hk hd
    cases op with
    | store t ad x =>
      have hk2 : wrEv T G σ none (.store t ad x) (fun r σ' => σ'.putK dst r K) := by
        unfold wrEv at hk ⊢; exact hk
      obtain ⟨r, σ', w', hK, hrun, hrel, hr, hn⟩ := store_sound (P := P) hT h hk2
      rw [St.putK_eq] at hK
      have hrun2 : (execOp a.eval ⟨dst, .store t ad x, type, pos, after, guard⟩).run P w = .ok .skip w' := by
        simp [execOp, hrun]
      unfold Oper.wp
      rw [hrun2, Oper.upon_skip]
      refine ⟨_, β, S, hK, hrel.put (by rw [hr]; simp [AR, DR]) (fun d hd' => by rw [hn]; exact hd d hd'), ?_⟩
      cases dst <;> exact hn
    | call c =>
      cases dst with
      | none =>
        exfalso
        unfold wrEv at hk
        simp only at hk
        split at hk
        · rename_i hh
          cases hh
        · exact hk
      | some d =>
        obtain ⟨r, σ', v, w', β', hK, hrun, hrel, hR, hn⟩ := append_sound (P := P) hT h (Nat.lt_of_lt_of_le (hd d rfl) h.small) (o := ⟨some d, .call c, type, pos, after, guard⟩) rfl hk
        rw [St.putK_eq] at hK
        unfold Oper.wp
        rw [hrun, Oper.upon_value]
        exact ⟨_, β', S, hK, hrel.put hR (fun d' hd' => by rw [hn]; exact hd d' hd'), hn⟩
    | _ => exact hk.elim
  · refine callEv_sound h hk Q _ ?_
    intro r σ' v w' β' S' hK hrel hR hn
    rw [St.putK_eq] at hK
    exact ⟨_, β', S', hK, hrel.put hR (fun d hd' => by rw [hn]; exact hd d hd'), by rw [← hn]; cases o.dst <;> rfl⟩

theorem Post.mono {n : Nat} {K K' : St → Prop} (h : Post G w0 M S0 n K a w) (hk : ∀ σ, K σ → K' σ) : Post G w0 M S0 n K' a w :=
  let ⟨σ, β, S, h1, h2, h3⟩ := h
  ⟨σ, β, S, hk σ h1, h2, h3⟩

theorem Rel.setBool (h : Rel G w0 M S0 σ a w β S) {g : Nat} {t : Bool} (hg : σ.get g = .d (.bool t)) (b : Bool) (hb : t = b) : Rel G w0 M S0 (σ.put (some g) (.d (.bool b))) a w β S := by
  have hv := h.get g
  rw [hg] at hv
  simp only [AR, DR] at hv
  refine { h with size := ?_, env := ?_ }
  · exact h.size
  · intro t' x hx
    simp only [St.put, lk] at hx
    split at hx
    · rename_i e
      subst e
      cases hx
      rw [hv, hb]
      exact AR.bool b
    · exact h.env t' x hx

theorem evGuard_sound (h : Rel G w0 M S0 σ a w β S) {ops : Array Oper} {o : Oper} {yes no : St → Prop} (hk : evGuard ops σ o yes no) :
    ∃ σ', Rel G w0 M S0 σ' a w β S ∧ σ'.n = σ.n ∧ ((Region.wanted o (yielded ops a.tmps) = true ∧ yes σ') ∨ (Region.wanted o (yielded ops a.tmps) = false ∧ no σ')) := by
  unfold evGuard at hk
  split at hk
  · rename_i hg
    exact ⟨σ, h, rfl, .inl ⟨by simp [Region.wanted, hg], hk⟩⟩
  · rename_i j want hg
    split at hk
    · exact hk.elim
    · rename_i g hgt
      have hy : yielded ops a.tmps j = match a.tmps[g]? with | some (.bool b) => some b | _ => none := by
        unfold yielded
        unfold gtmp at hgt
        rw [hgt]
        rfl
      have hv := h.get g
      split at hk
      · rename_i t ht
        rw [ht] at hv
        simp only [AR, DR] at hv
        have ha : a.tmps[g]? = some (.bool t) := by
          rw [Array.getD_eq_getD_getElem?] at hv
          cases hq : a.tmps[g]? with
          | none => rw [hq] at hv; simp [undef] at hv
          | some u => rw [hq] at hv; simp at hv; rw [hv]
        rw [ha] at hy
        cases want with
        | true =>
          cases t with
          | true => exact ⟨_, h.setBool ht true rfl, rfl, .inl ⟨by simp [Region.wanted, hg, hy], by have := hk.tt rfl; rwa [St.putK_eq] at this⟩⟩
          | false => exact ⟨_, h.setBool ht false rfl, rfl, .inr ⟨by simp [Region.wanted, hg, hy], by have := hk.ff rfl; rwa [St.putK_eq] at this⟩⟩
        | false =>
          cases t with
          | true => exact ⟨_, h.setBool ht true rfl, rfl, .inr ⟨by simp [Region.wanted, hg, hy], by have := hk.tt rfl; rwa [St.putK_eq] at this⟩⟩
          | false => exact ⟨_, h.setBool ht false rfl, rfl, .inl ⟨by simp [Region.wanted, hg, hy], by have := hk.ff rfl; rwa [St.putK_eq] at this⟩⟩
      · rename_i ht
        rw [ht] at hv
        simp only [AR, DR, DRs] at hv
        obtain ⟨vs, hv, hvs⟩ := hv
        refine ⟨σ, h, rfl, .inr ⟨?_, hk⟩⟩
        have hn : yielded ops a.tmps j = none := by
          rw [hy]
          rw [Array.getD_eq_getD_getElem?] at hv
          cases hq : a.tmps[g]? with
          | none => rfl
          | some u => rw [hq] at hv; simp at hv; subst hv; rfl
        simp [Region.wanted, hg, hn]
      · exact hk.elim

theorem put_undef (h : Rel G w0 M S0 σ a w β S) (dst : Option Nat) (hd : ∀ d, dst = some d → d < σ.n) : Rel G w0 M S0 (σ.put dst (.d (.tup []))) (a.put dst undef) w β S :=
  h.put (by simp only [AR, DR, DRs]; exact ⟨#[], rfl, rfl⟩) hd

theorem wpOp_of_wp {ops : Array Oper} {i : Nat} {o : Oper} {K : Act → World → Prop} {Q : Exit → Act → World → Prop} (hi : ops[i]? = some o) (hw : Region.wanted o (yielded ops a.tmps) = true) (h : o.wp P a w K Q) : wpOp P ops Q i K a w := by
  simp only [wpOp, hi, hw, if_true]
  exact .inl h

/-- ONE AFTER ANOTHER, IN THE TEXT's ORDER. -/
theorem evOps_sound (hT : TabOk P T) {ops : Array Oper} {n : Nat} (hd : ∀ o ∈ ops.toList, ∀ d, o.dst = some d → d < n) {Q : Exit → Act → World → Prop} {K : St → Prop} (hQ : ∀ a w, Post G w0 M S0 n K a w → Q .normal a w) :
    ∀ (rest : List Oper) (i : Nat) (σ : St) (a : Act) (w : World) (β : Own) (S : Imm), ops.toList.drop i = rest → σ.n = n → Rel G w0 M S0 σ a w β S → evOps P G T ops rest σ K → wpOps P ops Q ((List.range rest.length).map (i + ·)) a w
  | [], i, σ, a, w, β, S, _, hn, h, hk => by
    simp only [wpOps, List.length_nil, List.range_zero, List.map_nil]
    exact hQ a w ⟨σ, β, S, hk, h, hn⟩
  | o :: rest, i, σ, a, w, β, S, hdr, hn, h, hk => by
    have hi : ops[i]? = some o := by
      have : (ops.toList.drop i)[0]? = some o := by rw [hdr]; rfl
      simpa using this
    have hdr2 : ops.toList.drop (i + 1) = rest := by
      have : (ops.toList.drop i).drop 1 = rest := by rw [hdr]; rfl
      rwa [List.drop_drop] at this
    have hmem : o ∈ ops.toList := by
      have : ops.toList[i]? = some o := by simpa using hi
      exact List.mem_of_getElem? this
    have hlist : (List.range (o :: rest).length).map (i + ·) = i :: (List.range rest.length).map (i + 1 + ·) := by
      rw [List.length_cons, List.range_succ_eq_map, List.map_cons, List.map_map]
      congr 1
      apply List.map_congr_left
      intro j _
      simp only [Function.comp_def, Nat.succ_eq_add_one]; omega
    rw [hlist, wpOps_cons]
    simp only [evOps] at hk
    obtain ⟨σ1, h1, hn1, hcase⟩ := evGuard_sound h hk
    have hdo : ∀ d, o.dst = some d → d < σ1.n := fun d hd' => by rw [hn1, hn]; exact hd o hmem d hd'
    rcases hcase with ⟨hw, hy⟩ | ⟨hw, hno⟩
    · refine wpOp_of_wp hi hw (Oper.wp_mono ?_ (evOp_sound hT h1 hdo hy Q))
      rintro a' w' ⟨σ2, β2, S2, hK2, h2, hn2⟩
      exact evOps_sound hT hd hQ rest (i + 1) σ2 a' w' β2 S2 hdr2 (by rw [hn2, hn1, hn]) h2 hK2
    · simp only [wpOp, hi, hw, Bool.false_eq_true, if_false]
      rw [St.putK_eq] at hno
      refine evOps_sound hT hd hQ rest (i + 1) _ _ w β S hdr2 ?_ (put_undef h1 o.dst hdo) hno
      cases o.dst <;> exact hn1.trans hn
end
end Go.Ev
