/- The value of each operation that turns no memory: what the evaluator says of it holds. -/
import Derived.Test.YtmgbegcamhkblaaDoorEvD
set_option linter.unusedSimpArgs false
set_option linter.unusedVariables false
namespace Go.Ev
open Go
section
variable {P : Program} {T : Tab} {β : Own} {S : Imm} {w : World} {K : A → Prop}

theorem fieldsChk_info : ∀ {l : List (Nat × Nat × Bool)} {fs : List Field}, fieldsChk P l fs = true → l.length = fs.length ∧ (∀ F ∈ fs, ∃ i, P.info? F.type = some i) ∧
    ∀ j : Nat, (fs.map fun f => (f.offset, P.cellsOf f.type))[j]? = (l[j]?).map fun x => (x.1, x.2.1)
  | [], [], _ => ⟨rfl, by simp, by simp⟩
  | (o', s', g') :: l, F :: fs, hc => by
    simp only [fieldsChk, Bool.and_eq_true, beq_iff_eq] at hc
    obtain ⟨⟨⟨h1, h2⟩, h3⟩, h4⟩ := hc
    obtain ⟨e1, e2, e3⟩ := fieldsChk_info h4
    split at h3
    · rename_i i d hi hd
      simp at h3
      refine ⟨by simp [e1], fun F' hF => ?_, fun j => ?_⟩
      · rcases List.mem_cons.1 hF with rfl | hF
        · exact ⟨i, hi⟩
        · exact e2 _ hF
      · cases j with
        | zero => simp [Program.cellsOf, hi, h1, h3.1]
        | succ j => simpa using e3 j
    · simp at h3
  | [], _ :: _, h => by simp [fieldsChk] at h
  | _ :: _, [], h => by simp [fieldsChk] at h

theorem buildEv_sound (hT : TabOk P T) {t : Nat} {parts : List (Nat × A)} {vparts : Array (Nat × Value)} (h : buildEv T t parts K) (hp : PartsR β S w parts vparts.toList) :
    Gives P β S w (Instr.build t vparts) K := by
  unfold buildEv at h
  split at h
  · rename_i y hy
    obtain ⟨hz0, h⟩ := h
    have hz : y.zero ≠ [] := by
      intro e; rw [e] at hz0; simp at hz0
    obtain ⟨z, hrz, hzc⟩ := run_zero' hT hy w hz
    split at h
    · rename_i l hl
      obtain ⟨i, d, hi, hd, _, _, _, hc, _⟩ := Ty.info hT hy
      rw [hl] at hc
      have key : ∃ fs, d = .struct fs ∧ fieldsChk P l fs.toList = true := by
        cases d <;> first | (simp [TK.chk] at hc; done) | exact ⟨_, rfl, by simpa [TK.chk] using hc⟩
      obtain ⟨fs, rfl, hc⟩ := key
      obtain ⟨_, hinfo, hpl⟩ := fieldsChk_info hc
      obtain ⟨ps, hrun, hps⟩ := run_mapM_fields (P := P) (w := w) fs.toList hinfo
      obtain ⟨c, vc, hK, hR, hfill⟩ := fillA_sound h hp (vcells := z.cells) (by rw [hzc]; exact zeros_ARs y.zero)
      refine ⟨_, .agg vc, hK, AR_mkAgg hR, ?_⟩
      have hrun' : (fs.mapM fun f => (do pure (f.offset, ← sizeOf f.type) : Sem (Nat × Nat))).run P w = .ok ps.toArray w := by
        rw [Array.mapM_eq_mapM_toList]
        simp only [Sem.run_map, hrun, Result.andThen_ok]
      have hfill' : Instr.fill (ps.toArray[·]?) z.cells vparts.toList = some vc := by
        rw [← hfill]
        congr 1
        funext j
        simp only [List.getElem?_toArray, hps, hpl]
      simp only [Instr.build, Sem.run_bind, hrz, Result.andThen_ok, run_underlying hd]
      simp only [Sem.run_bind, hrun', Result.andThen_ok, hfill', Sem.run_pure]
    · rename_i n e he
      split at h
      · rename_i ye hye
        obtain ⟨c, vc, hK, hR, hfill⟩ := fillA_sound h hp (vcells := z.cells) (by rw [hzc]; exact zeros_ARs y.zero)
        refine ⟨_, .agg vc, hK, AR_mkAgg hR, ?_⟩
        simp only [Instr.build, Sem.run_bind, hrz, Result.andThen_ok, run_underlying (under_array hT hy he), run_sizeOf' hT hye, hfill, Sem.run_pure]
      · exact h.elim
    · exact h.elim
  · exact h.elim

/-- Bounds as they are given. -/
def OptR (β : Own) (S : Imm) (w : World) : Option A → Option Value → Prop
  | none, none => True
  | some x, some v => AR β S w x v
  | _, _ => False

theorem boundEv_elim {x : Option A} {v : Option Value} {d : Int} {K : Int → Prop} (h : boundEv x d K) (hx : OptR β S w x v) :
    (v = none ∧ K d) ∨ ∃ k i, v = some (.int k i) ∧ K i := by
  unfold boundEv at h
  split at h
  · cases v
    · exact .inl ⟨rfl, h⟩
    · exact hx.elim
  · rename_i k i
    cases v with
    | none => exact hx.elim
    | some v =>
      simp only [OptR, AR, DR] at hx
      subst hx
      exact .inr ⟨k, i, rfl, h⟩
  · exact h.elim

theorem run_sliceBounds' {b : Bool} {n c : Nat} {lo hi : Option Value} {l h : Int}
    (hlo : (lo = none ∧ l = 0) ∨ ∃ k, lo = some (.int k l)) (hhi : (hi = none ∧ h = n) ∨ ∃ k, hi = some (.int k h)) (h0 : 0 ≤ l) (h1 : l ≤ h) (h2 : h ≤ n) (hc : n ≤ c) :
    (Instr.sliceBounds b n c lo hi none).run P w = .ok (l.toNat, h.toNat, c) w := by
  have e1 : (h.toNat : Int) = h := Int.toNat_of_nonneg (by omega)
  have b1 : 0 ≤ h := by omega
  have b2 : h ≤ (c : Int) := by omega
  rcases hlo with ⟨rfl, rfl⟩ | ⟨kl, rfl⟩ <;> rcases hhi with ⟨rfl, rfl⟩ | ⟨kh, rfl⟩
  · simp [Instr.sliceBounds]
  · simp [Instr.sliceBounds, run_sliceBound, b1, b2]
  · simp [Instr.sliceBounds, run_sliceBound, h0, h1]
  · simp [Instr.sliceBounds, run_sliceBound, h0, b1, b2, e1, h1]

theorem sliceEv_sound (hT : TabOk P T) {hp : Nat → Option (Bool × List A)} (hh : HeapRd β S w hp) {t : Nat} {x : A} {lo hi mx : Option A} {u : Value} {vlo vhi vmx : Option Value} (h : sliceEv T hp t x lo hi mx K)
    (hx : AR β S w x u) (hlo : OptR β S w lo vlo) (hhi : OptR β S w hi vhi) (hmx : OptR β S w mx vmx) : Gives P β S w (Instr.sliceAt t u vlo vhi vmx) K := by
  unfold sliceEv at h
  split at h
  · exact h.elim
  · have : vmx = none := by cases vmx with | none => rfl | some _ => exact hmx.elim
    subst this
    split at h
    · rename_i s
      obtain ⟨ht, h⟩ := h
      simp only [Option.any_eq_true, decide_eq_true_eq] at ht
      obtain ⟨yt, hyt, hk⟩ := ht
      have hu := under_str hT hyt hk
      simp only [AR, DR] at hx
      subst hx
      have key : ∃ l h : Int, ((vlo = none ∧ l = 0) ∨ ∃ k, vlo = some (.int k l)) ∧ ((vhi = none ∧ h = s.size) ∨ ∃ k, vhi = some (.int k h)) ∧ (0 ≤ l ∧ l ≤ h ∧ h ≤ s.size) ∧ K (.d (.str (s.extract l.toNat h.toNat))) := by
        rcases boundEv_elim h hlo with ⟨h1, h⟩ | ⟨k1, i1, h1, h⟩ <;> rcases boundEv_elim h hhi with ⟨h2, h⟩ | ⟨k2, i2, h2, h⟩
        · exact ⟨_, _, .inl ⟨h1, rfl⟩, .inl ⟨h2, rfl⟩, h.c, h.k⟩
        · exact ⟨_, _, .inl ⟨h1, rfl⟩, .inr ⟨_, h2⟩, h.c, h.k⟩
        · exact ⟨_, _, .inr ⟨_, h1⟩, .inl ⟨h2, rfl⟩, h.c, h.k⟩
        · exact ⟨_, _, .inr ⟨_, h1⟩, .inr ⟨_, h2⟩, h.c, h.k⟩
      obtain ⟨l, hh, e1, e2, ⟨b0, b1, b2⟩, hK⟩ := key
      refine ⟨_, _, hK, AR.str _, ?_⟩
      simp [Instr.sliceAt, Instr.slice, run_underlying hu, run_sliceBounds' e1 e2 b0 b1 b2 (Nat.le_refl _)]
    · rename_i n cells
      obtain ⟨e, ye, hu, hye, h⟩ := tySlice_elim hT h
      simp only [AR, DR] at hx
      obtain ⟨a, c, rfl, hc, hl⟩ := hx
      have key : ∃ l h : Int, ((vlo = none ∧ l = 0) ∨ ∃ k, vlo = some (.int k l)) ∧ ((vhi = none ∧ h = n) ∨ ∃ k, vhi = some (.int k h)) ∧ (0 ≤ l ∧ l ≤ h ∧ h ≤ n) ∧ EqE (.slice (h - l).toNat ((cells.drop (l.toNat * ye.size)).take ((h - l).toNat * ye.size))) fun y => K (.d y) := by
        rcases boundEv_elim h hlo with ⟨h1, h⟩ | ⟨k1, i1, h1, h⟩ <;> rcases boundEv_elim h hhi with ⟨h2, h⟩ | ⟨k2, i2, h2, h⟩
        · exact ⟨_, _, .inl ⟨h1, rfl⟩, .inl ⟨h2, rfl⟩, h.c, h.k⟩
        · exact ⟨_, _, .inl ⟨h1, rfl⟩, .inr ⟨_, h2⟩, h.c, h.k⟩
        · exact ⟨_, _, .inr ⟨_, h1⟩, .inl ⟨h2, rfl⟩, h.c, h.k⟩
        · exact ⟨_, _, .inr ⟨_, h1⟩, .inr ⟨_, h2⟩, h.c, h.k⟩
      obtain ⟨l, hh, e1, e2, ⟨b0, b1, b2⟩, _, rfl, hK⟩ := key
      refine ⟨_, .slice (if c = l.toNat then a else a.map (·.add (l.toNat * ye.size))) (hh.toNat - l.toNat) (c - l.toNat), hK, ?_, ?_⟩
      · simp only [AR, DR]
        refine ⟨_, _, by rw [show (hh - l).toNat = hh.toNat - l.toNat by omega], by omega, ?_⟩
        rcases hl with rfl | ⟨b, o, rfl, hl⟩
        · exact .inl (by simp)
        · by_cases hcl : c = l.toNat
          · refine .inl ?_
            have : (hh - l).toNat = 0 := by omega
            rw [this]; simp
          · refine .inr ⟨b, o + l.toNat * ye.size, ?_, DRL_take (DRL_drop hl _) _⟩
            rw [if_neg hcl]
            simp [add_none]
      · simp [Instr.sliceAt, Instr.slice, run_underlying hu, run_sliceBounds' e1 e2 b0 b1 b2 hc, run_sizeOf' hT hye]
    · rename_i b o n sz
      obtain ⟨e, ye, hu, hye, hsz, h⟩ := tySlice_elim hT h
      have key : ∃ l h : Int, ((vlo = none ∧ l = 0) ∨ ∃ k, vlo = some (.int k l)) ∧ ((vhi = none ∧ h = n) ∨ ∃ k, vhi = some (.int k h)) ∧ (0 ≤ l ∧ l ≤ h ∧ h ≤ n) ∧ K (.own b (o + l.toNat * ye.size) (h - l).toNat sz) := by
        rcases boundEv_elim h hlo with ⟨h1, h⟩ | ⟨k1, i1, h1, h⟩ <;> rcases boundEv_elim h hhi with ⟨h2, h⟩ | ⟨k2, i2, h2, h⟩
        · exact ⟨_, _, .inl ⟨h1, rfl⟩, .inl ⟨h2, rfl⟩, h.c, h.k⟩
        · exact ⟨_, _, .inl ⟨h1, rfl⟩, .inr ⟨_, h2⟩, h.c, h.k⟩
        · exact ⟨_, _, .inr ⟨_, h1⟩, .inl ⟨h2, rfl⟩, h.c, h.k⟩
        · exact ⟨_, _, .inr ⟨_, h1⟩, .inr ⟨_, h2⟩, h.c, h.k⟩
      obtain ⟨l, hh, e1, e2, ⟨b0, b1, b2⟩, hK⟩ := key
      simp only [AR] at hx
      rcases hx with ⟨k, hk, c, C, Tc, fr, rfl, hc, hC, hl⟩ | ⟨rfl, hbn, a, rfl⟩
      · refine ⟨_, .slice (if c = l.toNat then some ⟨k, o, none⟩ else some ⟨k, o + l.toNat * ye.size, none⟩) (hh.toNat - l.toNat) (c - l.toNat), hK, ?_, ?_⟩
        · simp only [AR]
          by_cases hcl : c = l.toNat
          · exact .inr ⟨by omega, by rw [hk]; simp, some ⟨k, o, none⟩, by rw [if_pos hcl, show hh.toNat - l.toNat = 0 by omega, show c - l.toNat = 0 by omega]⟩
          · refine .inl ⟨k, hk, c - l.toNat, C, Tc, fr, by rw [if_neg hcl, show (hh - l).toNat = hh.toNat - l.toNat by omega], by omega, hC, ?_⟩
            rw [hsz, Nat.sub_mul]
            have : l.toNat * ye.size ≤ c * ye.size := Nat.mul_le_mul_right _ (by omega)
            rw [hsz] at hl
            omega
        · simp [Instr.sliceAt, Instr.slice, run_underlying hu, run_sliceBounds' e1 e2 b0 b1 b2 hc, run_sizeOf' hT hye, add_none]
      · refine ⟨_, .slice a 0 0, hK, ?_, ?_⟩
        · simp only [AR]
          exact .inr ⟨by omega, hbn, a, by rfl⟩
        · have e3 : l = 0 := by omega
          have e4 : hh = 0 := by omega
          subst e3 e4
          simp [Instr.sliceAt, Instr.slice, run_underlying hu, run_sliceBounds' e1 e2 b0 b1 b2 (Nat.le_refl 0), run_sizeOf' hT hye]
    · rename_i b o
      simp only [AR] at hx
      obtain ⟨k, hk, rfl⟩ := hx
      split at h
      · rename_i fr cells hcells
        obtain ⟨C, Tc, hC, hlen, _⟩ := hh b k _ _ hk hcells
        obtain ⟨n, e, ye, hu, hye, hn, h⟩ := tyArray_elim hT h
        have key : ∃ l h : Int, ((vlo = none ∧ l = 0) ∨ ∃ k, vlo = some (.int k l)) ∧ ((vhi = none ∧ h = n) ∨ ∃ k, vhi = some (.int k h)) ∧ (0 ≤ l ∧ l ≤ h ∧ h ≤ n) ∧ K (.own b (o + l.toNat * ye.size) (h - l).toNat ye.size) := by
          rcases boundEv_elim h hlo with ⟨h1, h⟩ | ⟨k1, i1, h1, h⟩ <;> rcases boundEv_elim h hhi with ⟨h2, h⟩ | ⟨k2, i2, h2, h⟩
          · exact ⟨_, _, .inl ⟨h1, rfl⟩, .inl ⟨h2, rfl⟩, h.c, h.k⟩
          · exact ⟨_, _, .inl ⟨h1, rfl⟩, .inr ⟨_, h2⟩, h.c, h.k⟩
          · exact ⟨_, _, .inr ⟨_, h1⟩, .inl ⟨h2, rfl⟩, h.c, h.k⟩
          · exact ⟨_, _, .inr ⟨_, h1⟩, .inr ⟨_, h2⟩, h.c, h.k⟩
        obtain ⟨l, hh', e1, e2, ⟨b0, b1, b2⟩, hK⟩ := key
        refine ⟨_, .slice (if n = l.toNat then some ⟨k, o, none⟩ else some ⟨k, o + l.toNat * ye.size, none⟩) (hh'.toNat - l.toNat) (n - l.toNat), hK, ?_, ?_⟩
        · simp only [AR]
          by_cases hcl : n = l.toNat
          · exact .inr ⟨by omega, by rw [hk]; simp, some ⟨k, o, none⟩, by rw [if_pos hcl, show hh'.toNat - l.toNat = 0 by omega, show n - l.toNat = 0 by omega]⟩
          · refine .inl ⟨k, hk, n - l.toNat, C, Tc, _, by rw [if_neg hcl, show (hh' - l).toNat = hh'.toNat - l.toNat by omega], by omega, hC, ?_⟩
            rw [Nat.sub_mul]
            have : l.toNat * ye.size ≤ n * ye.size := Nat.mul_le_mul_right _ (by omega)
            omega
        · simp only [Instr.sliceAt, Sem.run_bind, run_underlying hu, Result.andThen_ok, Instr.sureAddr, Sem.run_pure, run_sliceBounds' e1 e2 b0 b1 b2 (Nat.le_refl _), run_sizeOf' hT hye, add_none]
          congr 2
          split <;> rfl
      · exact h.elim
    · exact h.elim

theorem lenEv_sound (hT : TabOk P T) {t ty : Nat} {x : A} {u : Value} (h : lenEv T t x K) (hx : AR β S w x u) : Gives P β S w (Builtin.len_ #[t] ty #[u]) K := by
  unfold lenEv at h
  split at h
  · obtain ⟨e, ye, hu, hye, h⟩ := tySlice_elim hT h
    simp only [AR, DR] at hx
    obtain ⟨a, c, rfl, hc, hl⟩ := hx
    exact ⟨_, _, h, AR.int _ _, by simp [Builtin.len_, run_underlying hu, goInt]⟩
  · obtain ⟨e, ye, hu, hye, h⟩ := tySlice_elim hT h
    simp only [AR, DR] at hx
    subst hx
    exact ⟨_, _, h, AR.int _ _, by simp [Builtin.len_, run_underlying hu, goInt]⟩
  · obtain ⟨e, ye, hu, hye, h⟩ := tySlice_elim hT h
    simp only [AR] at hx
    rcases hx with ⟨k, hk, c, C, Tc, fr, rfl, hc, hC, hl⟩ | ⟨rfl, hbn, a, rfl⟩ <;>
      exact ⟨_, _, h, AR.int _ _, by simp [Builtin.len_, run_underlying hu, goInt]⟩
  · obtain ⟨ht, h⟩ := h
    simp only [Option.any_eq_true, decide_eq_true_eq] at ht
    obtain ⟨yt, hyt, hk⟩ := ht
    simp only [AR, DR] at hx
    subst hx
    exact ⟨_, _, h, AR.int _ _, by simp [Builtin.len_, run_underlying (under_str hT hyt hk), goInt]⟩
  · obtain ⟨n, e, ye, hu, hye, h⟩ := tyArray_elim hT h
    exact ⟨_, _, h, AR.int _ _, by simp [Builtin.len_, run_underlying hu, goInt]⟩

theorem maxEv_sound {b : Bool} {xs : List A} {vs : List Value} {at_ : Array TypeId} {ty : Nat} (h : maxEv b xs K) (hx : ARs β S w xs vs) :
    Gives P β S w (if b then Builtin.max_ at_ ty vs.toArray else Builtin.min_ at_ ty vs.toArray) K := by
  unfold maxEv at h
  split at h
  · simp only [ARs, AR, DR] at hx
    obtain ⟨u, us, rfl, rfl, u2, us2, rfl, rfl, rfl⟩ := hx
    obtain ⟨z, rfl, h⟩ := h
    cases b
    · exact ⟨_, _, h, AR.int _ _, by simp [Builtin.min_, Builtin.min2]⟩
    · exact ⟨_, _, h, AR.int _ _, by simp [Builtin.max_, Builtin.max2]⟩
  · exact h.elim

theorem extractEv_sound {x : A} {u : Value} {i : Nat} (h : extractEv x i K) (hx : AR β S w x u) : Gives P β S w (Instr.extract u i) K := by
  unfold extractEv at h
  split at h
  · rename_i l
    obtain ⟨x, h1, h2⟩ := h
    simp only [AR, DR] at hx
    obtain ⟨vs, rfl, hl⟩ := hx
    obtain ⟨v', hv', hR⟩ := DRs_get hl h1
    have : vs[i]? = some v' := by simpa using hv'
    exact ⟨_, v', h2, by simp only [AR]; exact hR, by simp [Instr.extract, this]⟩
  · exact h.elim

theorem pickEv_sound {c a b : A} {vc va vb : Value} (h : pickEv c a b K) (hc : AR β S w c vc) (ha : AR β S w a va) (hb : AR β S w b vb) :
    Gives P β S w (do pure (if ← asBool vc then va else vb)) K := by
  unfold pickEv at h
  split at h
  · rename_i t
    simp only [AR, DR] at hc
    subst hc
    cases t
    · exact ⟨_, _, h.ff rfl, hb, by simp [asBool]⟩
    · exact ⟨_, _, h.tt rfl, ha, by simp [asBool]⟩
  · exact h.elim

theorem OptR.map {ev : Operand → A} {ρ : Operand → Value} (he : ∀ x, AR β S w (ev x) (ρ x)) (x : Option Operand) : OptR β S w (x.map ev) (x.map ρ) := by
  cases x with
  | none => trivial
  | some x => exact he x
theorem PartsR.map {ev : Operand → A} {ρ : Operand → Value} (he : ∀ x, AR β S w (ev x) (ρ x)) : ∀ l : List (Nat × Operand), PartsR β S w (l.map fun p => (p.1, ev p.2)) (l.map fun p => (p.1, ρ p.2))
  | [] => .nil
  | p :: l => .cons (he p.2) (PartsR.map he l)
theorem ARs.map {ev : Operand → A} {ρ : Operand → Value} (he : ∀ x, AR β S w (ev x) (ρ x)) : ∀ l : List Operand, ARs β S w (l.map ev) (l.map ρ)
  | [] => rfl
  | p :: l => ⟨_, _, rfl, he p, ARs.map he l⟩

theorem run_v {s : Sem Value} {v : Value} (h : s.run P w = .ok v w) : (do pure (.value (← s)) : Sem Next).run P w = .ok (.value v) w := by
  simp [h]

/-- WHAT IS SAID OF THE VALUE OF AN OPERATION HOLDS. -/
theorem valEv_sound (hT : TabOk P T) {hp : Nat → Option (Bool × List A)} (hh : HeapRd β S w hp) {ev : Operand → A} {ρ : Operand → Value} (he : ∀ x, AR β S w (ev x) (ρ x))
    (o : Oper) (h : valEv T ev hp o.op K) : ∃ r v, K r ∧ AR β S w r v ∧ (execOp ρ o).run P w = .ok (.value v) w := by
  obtain ⟨dst, op, type, pos, after, guard⟩ := o
  simp only at h
  unfold valEv at h
  split at h
  · exact ⟨_, _, h, he _, by simp [execOp]⟩
  · exact ⟨_, _, h, he _, by simp [execOp]⟩
  · obtain ⟨r, v, h1, h2, h3⟩ := pickEv_sound (P := P) h (he _) (he _) (he _)
    refine ⟨r, v, h1, h2, ?_⟩
    simp only [execOp]
    simp only [Sem.run_bind] at h3 ⊢
    revert h3
    cases (asBool (ρ _)).run P w <;> simp
  · rename_i t parts
    obtain ⟨r, v, h1, h2, h3⟩ := buildEv_sound (P := P) hT h (vparts := parts.map fun p => (p.1, ρ p.2)) (by simpa using PartsR.map he parts.toList)
    exact ⟨r, v, h1, h2, run_v h3⟩
  · obtain ⟨r, v, h1, h2, h3⟩ := loadEv_sound (P := P) hT hh h (he _)
    exact ⟨r, v, h1, h2, run_v h3⟩
  · rename_i x
    have hx := he x
    split at h
    · rename_i b o hev
      rw [hev] at hx
      have hx' := hx
      simp only [AR] at hx
      obtain ⟨k, hk, hv⟩ := hx
      exact ⟨_, ρ x, h, hx', by simp [execOp, hv]⟩
    · rename_i c hev
      rw [hev] at hx
      have hx' := hx
      simp only [AR] at hx
      obtain ⟨k, o, hv, hl⟩ := hx
      exact ⟨_, ρ x, h, hx', by simp [execOp, hv]⟩
    · exact h.elim
  · rename_i op xT x y _
    obtain ⟨r, v, h1, h2, h3⟩ := binEv_sound (P := P) hT (x := x) (y := y) h (he _) (he _)
    exact ⟨r, v, h1, h2, run_v h3⟩
  · obtain ⟨r, v, h1, h2, h3⟩ := unEv_sound (P := P) h (he _)
    exact ⟨r, v, h1, h2, run_v h3⟩
  · obtain ⟨r, v, h1, h2, h3⟩ := convEv_sound (P := P) hT h (he _)
    exact ⟨r, v, h1, h2, run_v h3⟩
  · obtain ⟨r, v, h1, h2, h3⟩ := sliceEv_sound (P := P) hT hh h (he _) (OptR.map he _) (OptR.map he _) (OptR.map he _)
    exact ⟨r, v, h1, h2, run_v h3⟩
  · obtain ⟨r, v, h1, h2, h3⟩ := fieldAddrEv_sound (P := P) hT h (he _)
    exact ⟨r, v, h1, h2, run_v h3⟩
  · obtain ⟨r, v, h1, h2, h3⟩ := fieldEv_sound (P := P) hT h (he _)
    exact ⟨r, v, h1, h2, run_v h3⟩
  · obtain ⟨r, v, h1, h2, h3⟩ := indexAddrEv_sound (P := P) hT h (he _) (he _)
    exact ⟨r, v, h1, h2, run_v h3⟩
  · obtain ⟨r, v, h1, h2, h3⟩ := indexEv_sound (P := P) hT h (he _) (he _)
    exact ⟨r, v, h1, h2, run_v h3⟩
  · obtain ⟨r, v, h1, h2, h3⟩ := extractEv_sound (P := P) h (he _)
    exact ⟨r, v, h1, h2, run_v h3⟩
  · rename_i c
    obtain ⟨callee, args, argTypes⟩ := c
    simp only at h
    split at h
    · split at h
      · rename_i t x ht hx
        obtain ⟨r, v, h1, h2, h3⟩ := lenEv_sound (P := P) (ty := type) hT h (he x)
        have e1 : argTypes = #[t] := by cases argTypes; simp_all
        have e2 : args = #[x] := by cases args; simp_all
        subst e1 e2
        exact ⟨r, v, h1, h2, by simp [execOp, resolve, invoke, builtin, h3]⟩
      · exact h.elim
    · obtain ⟨r, v, h1, h2, h3⟩ := maxEv_sound (P := P) (at_ := argTypes) (ty := type) h (ARs.map he args.toList)
      simp only [if_true] at h3
      have e1 : (args.toList.map ρ).toArray = args.map ρ := by cases args; simp
      rw [e1] at h3
      exact ⟨r, v, h1, h2, by simp [execOp, resolve, invoke, builtin, h3]⟩
    · obtain ⟨r, v, h1, h2, h3⟩ := maxEv_sound (P := P) (at_ := argTypes) (ty := type) h (ARs.map he args.toList)
      simp only [Bool.false_eq_true, if_false] at h3
      have e1 : (args.toList.map ρ).toArray = args.map ρ := by cases args; simp
      rw [e1] at h3
      exact ⟨r, v, h1, h2, by simp [execOp, resolve, invoke, builtin, h3]⟩
    · exact h.elim
  · exact h.elim
end
end Go.Ev
