/- Contracts of the given functions, on data. Conditions stand in each theorem. -/
import Derived.Test.YtagjickjfjgfpaaGreatDoorGEvA
set_option linter.unusedSimpArgs false
set_option linter.unusedVariables false
namespace Go.Ev
open Go
section
variable {P : Program} {T : Tab} {β : Own} {S : Imm} {w : World} {K : A → Prop}

theorem fieldsChk_info : ∀ {l : List (Nat × Nat × Bool)} {fs : List Field}, fieldsChk P l fs = true → l.length = fs.length ∧ (∀ F ∈ fs, ∃ i, P.info? F.type = some i) ∧
    ∀ j : Nat, (fs.map fun f => (f.offset, P.cellsOf f.type))[j]? = (l[j]?).map fun x => (x.1, x.2.1)
  | [], [], _ => ⟨rfl, by simp, by simp⟩
  | (o', s', g') :: l, F :: fs, hc => by
    simp only [fieldsChk, Bool.and_eq_true, beq_iff_eq] at hc
    obtain ⟨⟨⟨h1, h2⟩, h3⟩, h4⟩ := hc
    obtain ⟨e1, e2, e3⟩ := fieldsChk_info h4
    split at h3
    · rename_i i d hi hd
      simp at h3
      refine ⟨by simp [e1], fun F' hF => ?_, fun j => ?_⟩
      · rcases List.mem_cons.1 hF with rfl | hF
        · exact ⟨i, hi⟩
        · exact e2 _ hF
      · cases j with
        | zero => simp [Program.cellsOf, hi, h1, h3.1]
        | succ j => simpa using e3 j
    · simp at h3
  | [], _ :: _, h => by simp [fieldsChk] at h
  | _ :: _, [], h => by simp [fieldsChk] at h

theorem buildEv_sound (hT : TabOk P T) {t : Nat} {parts : List (Nat × A)} {vparts : Array (Nat × Value)} (h : buildEv T t parts K) (hp : PartsR β S w parts vparts.toList) :
    Gives P β S w (Instr.build t vparts) K := by
  unfold buildEv at h
  split at h
  · rename_i y hy
    obtain ⟨hz0, h⟩ := h
    have hz : y.zero ≠ [] := by
      intro e; rw [e] at hz0; simp at hz0
    obtain ⟨z, hrz, hzc⟩ := run_zero' hT hy w hz
    split at h
    · rename_i l hl
      obtain ⟨i, d, hi, hd, _, _, _, hc, _⟩ := Ty.info hT hy
      rw [hl] at hc
      have key : ∃ fs, d = .struct fs ∧ fieldsChk P l fs.toList = true := by
        cases d <;> first | (simp [TK.chk] at hc; done) | exact ⟨_, rfl, by simpa [TK.chk] using hc⟩
      obtain ⟨fs, rfl, hc⟩ := key
      obtain ⟨_, hinfo, hpl⟩ := fieldsChk_info hc
      obtain ⟨ps, hrun, hps⟩ := run_mapM_fields (P := P) (w := w) fs.toList hinfo
      obtain ⟨c, vc, hK, hR, hfill⟩ := fillA_sound h hp (vcells := z.cells) (by rw [hzc]; exact zeros_ARs y.zero)
      refine ⟨_, .agg vc, hK, AR_mkAgg hR, ?_⟩
      have hrun' : (fs.mapM fun f => (do pure (f.offset, ← sizeOf f.type) : Sem (Nat × Nat))).run P w = .ok ps.toArray w := by
        rw [Array.mapM_eq_mapM_toList]
        simp only [Sem.run_map, hrun, Result.andThen_ok]
      have hfill' : Instr.fill (ps.toArray[·]?) z.cells vparts.toList = some vc := by
        rw [← hfill]
        congr 1
        funext j
        simp only [List.getElem?_toArray, hps, hpl]
      simp only [Instr.build, Sem.run_bind, hrz, Result.andThen_ok, run_underlying hd]
      simp only [Sem.run_bind, hrun', Result.andThen_ok, hfill', Sem.run_pure]
    · rename_i n e he
      split at h
      · rename_i ye hye
        obtain ⟨c, vc, hK, hR, hfill⟩ := fillA_sound h hp (vcells := z.cells) (by rw [hzc]; exact zeros_ARs y.zero)
        refine ⟨_, .agg vc, hK, AR_mkAgg hR, ?_⟩
        simp only [Instr.build, Sem.run_bind, hrz, Result.andThen_ok, run_underlying (under_array hT hy he), run_sizeOf' hT hye, hfill, Sem.run_pure]
      · exact h.elim
    · exact h.elim
  · exact h.elim

/-- Bounds as they are given. -/
def OptR (β : Own) (S : Imm) (w : World) : Option A → Option Value → Prop
  | none, none => True
  | some x, some v => AR β S w x v
  | _, _ => False

theorem boundEv_elim {x : Option A} {v : Option Value} {d : Int} {K : Int → Prop} (h : boundEv x d K) (hx : OptR β S w x v) :
    (v = none ∧ K d) ∨ ∃ k i, v = some (.int k i) ∧ K i := by
  unfold boundEv at h
  split at h
  · cases v
    · exact .inl ⟨rfl, h⟩
    · exact hx.elim
  · rename_i k i
    cases v with
    | none => exact hx.elim
    | some v =>
      simp only [OptR, AR, DR] at hx
      subst hx
      exact .inr ⟨k, i, rfl, h⟩
  · exact h.elim

theorem run_sliceBounds' {b : Bool} {n c : Nat} {lo hi : Option Value} {l h : Int}
    (hlo : (lo = none ∧ l = 0) ∨ ∃ k, lo = some (.int k l)) (hhi : (hi = none ∧ h = n) ∨ ∃ k, hi = some (.int k h)) (h0 : 0 ≤ l) (h1 : l ≤ h) (h2 : h ≤ n) (hc : n ≤ c) :
    (Instr.sliceBounds b n c lo hi none).run P w = .ok (l.toNat, h.toNat, c) w := by
  have e1 : (h.toNat : Int) = h := Int.toNat_of_nonneg (by omega)
  have b1 : 0 ≤ h := by omega
  have b2 : h ≤ (c : Int) := by omega
  rcases hlo with ⟨rfl, rfl⟩ | ⟨kl, rfl⟩ <;> rcases hhi with ⟨rfl, rfl⟩ | ⟨kh, rfl⟩
  · simp [Instr.sliceBounds]
  · simp [Instr.sliceBounds, run_sliceBound, b1, b2]
  · simp [Instr.sliceBounds, run_sliceBound, h0, h1]
  · simp [Instr.sliceBounds, run_sliceBound, h0, b1, b2, e1, h1]

theorem sliceEv_sound (hT : TabOk P T) {hp : Nat → Option (Bool × List A)} (hh : HeapRd β S w hp) {t : Nat} {x : A} {lo hi mx : Option A} {u : Value} {vlo vhi vmx : Option Value} (h : sliceEv T hp t x lo hi mx K)
    (hx : AR β S w x u) (hlo : OptR β S w lo vlo) (hhi : OptR β S w hi vhi) (hmx : OptR β S w mx vmx) : Gives P β S w (Instr.sliceAt t u vlo vhi vmx) K := by
  unfold sliceEv at h
  split at h
  · exact h.elim
  · have : vmx = none := by cases vmx with | none => rfl | some _ => exact hmx.elim
    subst this
    split at h
    · rename_i s
      obtain ⟨ht, h⟩ := h
      simp only [Option.any_eq_true, decide_eq_true_eq] at ht
      obtain ⟨yt, hyt, hk⟩ := ht
      have hu := under_str hT hyt hk
      simp only [AR, DR] at hx
      subst hx
      have key : ∃ l h : Int, ((vlo = none ∧ l = 0) ∨ ∃ k, vlo = some (.int k l)) ∧ ((vhi = none ∧ h = s.size) ∨ ∃ k, vhi = some (.int k h)) ∧ (0 ≤ l ∧ l ≤ h ∧ h ≤ s.size) ∧ K (.d (.str (s.extract l.toNat h.toNat))) := by
        rcases boundEv_elim h hlo with ⟨h1, h⟩ | ⟨k1, i1, h1, h⟩ <;> rcases boundEv_elim h hhi with ⟨h2, h⟩ | ⟨k2, i2, h2, h⟩
        · exact ⟨_, _, .inl ⟨h1, rfl⟩, .inl ⟨h2, rfl⟩, h.c, h.k⟩
        · exact ⟨_, _, .inl ⟨h1, rfl⟩, .inr ⟨_, h2⟩, h.c, h.k⟩
        · exact ⟨_, _, .inr ⟨_, h1⟩, .inl ⟨h2, rfl⟩, h.c, h.k⟩
        · exact ⟨_, _, .inr ⟨_, h1⟩, .inr ⟨_, h2⟩, h.c, h.k⟩
      obtain ⟨l, hh, e1, e2, ⟨b0, b1, b2⟩, hK⟩ := key
      refine ⟨_, _, hK, AR.str _, ?_⟩
      simp [Instr.sliceAt, Instr.slice, run_underlying hu, run_sliceBounds' e1 e2 b0 b1 b2 (Nat.le_refl _)]
    · rename_i n cells
      obtain ⟨e, ye, hu, hye, h⟩ := tySlice_elim hT h
      simp only [AR, DR] at hx
      obtain ⟨a, c, rfl, hc, hl⟩ := hx
      have key : ∃ l h : Int, ((vlo = none ∧ l = 0) ∨ ∃ k, vlo = some (.int k l)) ∧ ((vhi = none ∧ h = n) ∨ ∃ k, vhi = some (.int k h)) ∧ (0 ≤ l ∧ l ≤ h ∧ h ≤ n) ∧ EqE (.slice (h - l).toNat ((cells.drop (l.toNat * ye.size)).take ((h - l).toNat * ye.size))) fun y => K (.d y) := by
        rcases boundEv_elim h hlo with ⟨h1, h⟩ | ⟨k1, i1, h1, h⟩ <;> rcases boundEv_elim h hhi with ⟨h2, h⟩ | ⟨k2, i2, h2, h⟩
        · exact ⟨_, _, .inl ⟨h1, rfl⟩, .inl ⟨h2, rfl⟩, h.c, h.k⟩
        · exact ⟨_, _, .inl ⟨h1, rfl⟩, .inr ⟨_, h2⟩, h.c, h.k⟩
        · exact ⟨_, _, .inr ⟨_, h1⟩, .inl ⟨h2, rfl⟩, h.c, h.k⟩
        · exact ⟨_, _, .inr ⟨_, h1⟩, .inr ⟨_, h2⟩, h.c, h.k⟩
      obtain ⟨l, hh, e1, e2, ⟨b0, b1, b2⟩, _, rfl, hK⟩ := key
      refine ⟨_, .slice (if c = l.toNat then a else a.map (·.add (l.toNat * ye.size))) (hh.toNat - l.toNat) (c - l.toNat), hK, ?_, ?_⟩
      · simp only [AR, DR]
        refine ⟨_, _, by rw [show (hh - l).toNat = hh.toNat - l.toNat by omega], by omega, ?_⟩
        rcases hl with rfl | ⟨b, o, rfl, hl⟩
        · exact .inl (by simp)
        · by_cases hcl : c = l.toNat
          · refine .inl ?_
            have : (hh - l).toNat = 0 := by omega
            rw [this]; simp
          · refine .inr ⟨b, o + l.toNat * ye.size, ?_, DRL_take (DRL_drop hl _) _⟩
            rw [if_neg hcl]
            simp [add_none]
      · simp [Instr.sliceAt, Instr.slice, run_underlying hu, run_sliceBounds' e1 e2 b0 b1 b2 hc, run_sizeOf' hT hye]
    · rename_i b o n sz
      obtain ⟨e, ye, hu, hye, hsz, h⟩ := tySlice_elim hT h
      have key : ∃ l h : Int, ((vlo = none ∧ l = 0) ∨ ∃ k, vlo = some (.int k l)) ∧ ((vhi = none ∧ h = n) ∨ ∃ k, vhi = some (.int k h)) ∧ (0 ≤ l ∧ l ≤ h ∧ h ≤ n) ∧ K (.own b (o + l.toNat * ye.size) (h - l).toNat sz) := by
        rcases boundEv_elim h hlo with ⟨h1, h⟩ | ⟨k1, i1, h1, h⟩ <;> rcases boundEv_elim h hhi with ⟨h2, h⟩ | ⟨k2, i2, h2, h⟩
        · exact ⟨_, _, .inl ⟨h1, rfl⟩, .inl ⟨h2, rfl⟩, h.c, h.k⟩
        · exact ⟨_, _, .inl ⟨h1, rfl⟩, .inr ⟨_, h2⟩, h.c, h.k⟩
        · exact ⟨_, _, .inr ⟨_, h1⟩, .inl ⟨h2, rfl⟩, h.c, h.k⟩
        · exact ⟨_, _, .inr ⟨_, h1⟩, .inr ⟨_, h2⟩, h.c, h.k⟩
      obtain ⟨l, hh, e1, e2, ⟨b0, b1, b2⟩, hK⟩ := key
      simp only [AR] at hx
      rcases hx with ⟨k, hk, c, C, Tc, fr, rfl, hc, hC, hl⟩ | ⟨rfl, hbn, a, rfl⟩
      · refine ⟨_, .slice (if c = l.toNat then some ⟨k, o, none⟩ else some ⟨k, o + l.toNat * ye.size, none⟩) (hh.toNat - l.toNat) (c - l.toNat), hK, ?_, ?_⟩
        · simp only [AR]
          by_cases hcl : c = l.toNat
          · exact .inr ⟨by omega, by rw [hk]; simp, some ⟨k, o, none⟩, by rw [if_pos hcl, show hh.toNat - l.toNat = 0 by omega, show c - l.toNat = 0 by omega]⟩
          · refine .inl ⟨k, hk, c - l.toNat, C, Tc, fr, by rw [if_neg hcl, show (hh - l).toNat = hh.toNat - l.toNat by omega], by omega, hC, ?_⟩
            rw [hsz, Nat.sub_mul]
            have : l.toNat * ye.size ≤ c * ye.size := Nat.mul_le_mul_right _ (by omega)
            rw [hsz] at hl
            omega
        · simp [Instr.sliceAt, Instr.slice, run_underlying hu, run_sliceBounds' e1 e2 b0 b1 b2 hc, run_sizeOf' hT hye, add_none]
      · refine ⟨_, .slice a 0 0, hK, ?_, ?_⟩
        · simp only [AR]
          exact .inr ⟨by omega, hbn, a, by rfl⟩
        · have e3 : l = 0 := by omega
          have e4 : hh = 0 := by omega
          subst e3 e4
          simp [Instr.sliceAt, Instr.slice, run_underlying hu, run_sliceBounds' e1 e2 b0 b1 b2 (Nat.le_refl 0), run_sizeOf' hT hye]
    · rename_i b o
      simp only [AR] at hx
      obtain ⟨k, hk, rfl⟩ := hx
      split at h
      · rename_i fr cells hcells
        obtain ⟨C, Tc, hC, hlen, _⟩ := hh b k _ _ hk hcells
        obtain ⟨n, e, ye, hu, hye, hn, h⟩ := tyArray_elim hT h
        have key : ∃ l h : Int, ((vlo = none ∧ l = 0) ∨ ∃ k, vlo = some (.int k l)) ∧ ((vhi = none ∧ h = n) ∨ ∃ k, vhi = some (.int k h)) ∧ (0 ≤ l ∧ l ≤ h ∧ h ≤ n) ∧ K (.own b (o + l.toNat * ye.size) (h - l).toNat ye.size) := by
          rcases boundEv_elim h hlo with ⟨h1, h⟩ | ⟨k1, i1, h1, h⟩ <;> rcases boundEv_elim h hhi with ⟨h2, h⟩ | ⟨k2, i2, h2, h⟩
          · exact ⟨_, _, .inl ⟨h1, rfl⟩, .inl ⟨h2, rfl⟩, h.c, h.k⟩
          · exact ⟨_, _, .inl ⟨h1, rfl⟩, .inr ⟨_, h2⟩, h.c, h.k⟩
          · exact ⟨_, _, .inr ⟨_, h1⟩, .inl ⟨h2, rfl⟩, h.c, h.k⟩
          · exact ⟨_, _, .inr ⟨_, h1⟩, .inr ⟨_, h2⟩, h.c, h.k⟩
        obtain ⟨l, hh', e1, e2, ⟨b0, b1, b2⟩, hK⟩ := key
        refine ⟨_, .slice (if n = l.toNat then some ⟨k, o, none⟩ else some ⟨k, o + l.toNat * ye.size, none⟩) (hh'.toNat - l.toNat) (n - l.toNat), hK, ?_, ?_⟩
        · simp only [AR]
          by_cases hcl : n = l.toNat
          · exact .inr ⟨by omega, by rw [hk]; simp, some ⟨k, o, none⟩, by rw [if_pos hcl, show hh'.toNat - l.toNat = 0 by omega, show n - l.toNat = 0 by omega]⟩
          · refine .inl ⟨k, hk, n - l.toNat, C, Tc, _, by rw [if_neg hcl, show (hh' - l).toNat = hh'.toNat - l.toNat by omega], by omega, hC, ?_⟩
            rw [Nat.sub_mul]
            have : l.toNat * ye.size ≤ n * ye.size := Nat.mul_le_mul_right _ (by omega)
            omega
        · simp only [Instr.sliceAt, Sem.run_bind, run_underlying hu, Result.andThen_ok, Instr.sureAddr, Sem.run_pure, run_sliceBounds' e1 e2 b0 b1 b2 (Nat.le_refl _), run_sizeOf' hT hye, add_none]
          congr 2
          split <;> rfl
      · exact h.elim
    · exact h.elim

theorem lenEv_sound (hT : TabOk P T) {t ty : Nat} {x : A} {u : Value} (h : lenEv T t x K) (hx : AR β S w x u) : Gives P β S w (Builtin.len_ #[t] ty #[u]) K := by
  unfold lenEv at h
  split at h
  · obtain ⟨e, ye, hu, hye, h⟩ := tySlice_elim hT h
    simp only [AR, DR] at hx
    obtain ⟨a, c, rfl, hc, hl⟩ := hx
    exact ⟨_, _, h, AR.int _ _, by simp [Builtin.len_, run_underlying hu, goInt]⟩
  · obtain ⟨e, ye, hu, hye, h⟩ := tySlice_elim hT h
    simp only [AR, DR] at hx
    subst hx
    exact ⟨_, _, h, AR.int _ _, by simp [Builtin.len_, run_underlying hu, goInt]⟩
  · obtain ⟨e, ye, hu, hye, h⟩ := tySlice_elim hT h
    simp only [AR] at hx
    rcases hx with ⟨k, hk, c, C, Tc, fr, rfl, hc, hC, hl⟩ | ⟨rfl, hbn, a, rfl⟩ <;>
      exact ⟨_, _, h, AR.int _ _, by simp [Builtin.len_, run_underlying hu, goInt]⟩
  · obtain ⟨ht, h⟩ := h
    simp only [Option.any_eq_true, decide_eq_true_eq] at ht
    obtain ⟨yt, hyt, hk⟩ := ht
    simp only [AR, DR] at hx
    subst hx
    exact ⟨_, _, h, AR.int _ _, by simp [Builtin.len_, run_underlying (under_str hT hyt hk), goInt]⟩
  · obtain ⟨n, e, ye, hu, hye, h⟩ := tyArray_elim hT h
    exact ⟨_, _, h, AR.int _ _, by simp [Builtin.len_, run_underlying hu, goInt]⟩

theorem maxEv_sound {b : Bool} {xs : List A} {vs : List Value} {at_ : Array TypeId} {ty : Nat} (h : maxEv b xs K) (hx : ARs β S w xs vs) :
    Gives P β S w (if b then Builtin.max_ at_ ty vs.toArray else Builtin.min_ at_ ty vs.toArray) K := by
  unfold maxEv at h
  split at h
  · simp only [ARs, AR, DR] at hx
    obtain ⟨u, us, rfl, rfl, u2, us2, rfl, rfl, rfl⟩ := hx
    obtain ⟨z, rfl, h⟩ := h
    cases b
    · exact ⟨_, _, h, AR.int _ _, by simp [Builtin.min_, Builtin.min2]⟩
    · exact ⟨_, _, h, AR.int _ _, by simp [Builtin.max_, Builtin.max2]⟩
  · exact h.elim

theorem extractEv_sound {x : A} {u : Value} {i : Nat} (h : extractEv x i K) (hx : AR β S w x u) : Gives P β S w (Instr.extract u i) K := by
  unfold extractEv at h
  split at h
  · rename_i l
    obtain ⟨x, h1, h2⟩ := h
    simp only [AR, DR] at hx
    obtain ⟨vs, rfl, hl⟩ := hx
    obtain ⟨v', hv', hR⟩ := DRs_get hl h1
    have : vs[i]? = some v' := by simpa using hv'
    exact ⟨_, v', h2, by simp only [AR]; exact hR, by simp [Instr.extract, this]⟩
  · exact h.elim

theorem pickEv_sound {c a b : A} {vc va vb : Value} (h : pickEv c a b K) (hc : AR β S w c vc) (ha : AR β S w a va) (hb : AR β S w b vb) :
    Gives P β S w (do pure (if ← asBool vc then va else vb)) K := by
  unfold pickEv at h
  split at h
  · rename_i t
    simp only [AR, DR] at hc
    subst hc
    cases t
    · exact ⟨_, _, h.ff rfl, hb, by simp [asBool]⟩
    · exact ⟨_, _, h.tt rfl, ha, by simp [asBool]⟩
  · exact h.elim

theorem OptR.map {ev : Operand → A} {ρ : Operand → Value} (he : ∀ x, AR β S w (ev x) (ρ x)) (x : Option Operand) : OptR β S w (x.map ev) (x.map ρ) := by
  cases x with
  | none => trivial
  | some x => exact he x
theorem PartsR.map {ev : Operand → A} {ρ : Operand → Value} (he : ∀ x, AR β S w (ev x) (ρ x)) : ∀ l : List (Nat × Operand), PartsR β S w (l.map fun p => (p.1, ev p.2)) (l.map fun p => (p.1, ρ p.2))
  | [] => .nil
  | p :: l => .cons (he p.2) (PartsR.map he l)
theorem ARs.map {ev : Operand → A} {ρ : Operand → Value} (he : ∀ x, AR β S w (ev x) (ρ x)) : ∀ l : List Operand, ARs β S w (l.map ev) (l.map ρ)
  | [] => rfl
  | p :: l => ⟨_, _, rfl, he p, ARs.map he l⟩

theorem run_v {s : Sem Value} {v : Value} (h : s.run P w = .ok v w) : (do pure (.value (← s)) : Sem Next).run P w = .ok (.value v) w := by
  simp [h]

/-- WHAT IS SAID OF THE VALUE OF AN OPERATION HOLDS. -/
theorem valEv_sound (hT : TabOk P T) {hp : Nat → Option (Bool × List A)} (hh : HeapRd β S w hp) {ev : Operand → A} {ρ : Operand → Value} (he : ∀ x, AR β S w (ev x) (ρ x))
    (o : Oper) (h : valEv T ev hp o.op K) : ∃ r v, K r ∧ AR β S w r v ∧ (execOp ρ o).run P w = .ok (.value v) w := by
  obtain ⟨dst, op, type, pos, after, guard⟩ := o
  simp only at h
  unfold valEv at h
  split at h
  · exact ⟨_, _, h, he _, by simp [execOp]⟩
  · exact ⟨_, _, h, he _, by simp [execOp]⟩
  · obtain ⟨r, v, h1, h2, h3⟩ := pickEv_sound (P := P) h (he _) (he _) (he _)
    refine ⟨r, v, h1, h2, ?_⟩
    simp only [execOp]
    simp only [Sem.run_bind] at h3 ⊢
    revert h3
    cases (asBool (ρ _)).run P w <;> simp
  · rename_i t parts
    obtain ⟨r, v, h1, h2, h3⟩ := buildEv_sound (P := P) hT h (vparts := parts.map fun p => (p.1, ρ p.2)) (by simpa using PartsR.map he parts.toList)
    exact ⟨r, v, h1, h2, run_v h3⟩
  · obtain ⟨r, v, h1, h2, h3⟩ := loadEv_sound (P := P) hT hh h (he _)
    exact ⟨r, v, h1, h2, run_v h3⟩
  · rename_i x
    have hx := he x
    split at h
    · rename_i b o hev
      rw [hev] at hx
      have hx' := hx
      simp only [AR] at hx
      obtain ⟨k, hk, hv⟩ := hx
      exact ⟨_, ρ x, h, hx', by simp [execOp, hv]⟩
    · rename_i c hev
      rw [hev] at hx
      have hx' := hx
      simp only [AR] at hx
      obtain ⟨k, o, hv, hl⟩ := hx
      exact ⟨_, ρ x, h, hx', by simp [execOp, hv]⟩
    · exact h.elim
  · rename_i op xT x y _
    obtain ⟨r, v, h1, h2, h3⟩ := binEv_sound (P := P) hT (x := x) (y := y) h (he _) (he _)
    exact ⟨r, v, h1, h2, run_v h3⟩
  · obtain ⟨r, v, h1, h2, h3⟩ := unEv_sound (P := P) h (he _)
    exact ⟨r, v, h1, h2, run_v h3⟩
  · obtain ⟨r, v, h1, h2, h3⟩ := convEv_sound (P := P) hT h (he _)
    exact ⟨r, v, h1, h2, run_v h3⟩
  · obtain ⟨r, v, h1, h2, h3⟩ := sliceEv_sound (P := P) hT hh h (he _) (OptR.map he _) (OptR.map he _) (OptR.map he _)
    exact ⟨r, v, h1, h2, run_v h3⟩
  · obtain ⟨r, v, h1, h2, h3⟩ := fieldAddrEv_sound (P := P) hT h (he _)
    exact ⟨r, v, h1, h2, run_v h3⟩
  · obtain ⟨r, v, h1, h2, h3⟩ := fieldEv_sound (P := P) hT h (he _)
    exact ⟨r, v, h1, h2, run_v h3⟩
  · obtain ⟨r, v, h1, h2, h3⟩ := indexAddrEv_sound (P := P) hT h (he _) (he _)
    exact ⟨r, v, h1, h2, run_v h3⟩
  · obtain ⟨r, v, h1, h2, h3⟩ := indexEv_sound (P := P) hT h (he _) (he _)
    exact ⟨r, v, h1, h2, run_v h3⟩
  · obtain ⟨r, v, h1, h2, h3⟩ := extractEv_sound (P := P) h (he _)
    exact ⟨r, v, h1, h2, run_v h3⟩
  · rename_i c
    obtain ⟨callee, args, argTypes⟩ := c
    simp only at h
    split at h
    · split at h
      · rename_i t x ht hx
        obtain ⟨r, v, h1, h2, h3⟩ := lenEv_sound (P := P) (ty := type) hT h (he x)
        have e1 : argTypes = #[t] := by cases argTypes; simp_all
        have e2 : args = #[x] := by cases args; simp_all
        subst e1 e2
        exact ⟨r, v, h1, h2, by simp [execOp, resolve, invoke, builtin, h3]⟩
      · exact h.elim
    · obtain ⟨r, v, h1, h2, h3⟩ := maxEv_sound (P := P) (at_ := argTypes) (ty := type) h (ARs.map he args.toList)
      simp only [if_true] at h3
      have e1 : (args.toList.map ρ).toArray = args.map ρ := by cases args; simp
      rw [e1] at h3
      exact ⟨r, v, h1, h2, by simp [execOp, resolve, invoke, builtin, h3]⟩
    · obtain ⟨r, v, h1, h2, h3⟩ := maxEv_sound (P := P) (at_ := argTypes) (ty := type) h (ARs.map he args.toList)
      simp only [Bool.false_eq_true, if_false] at h3
      have e1 : (args.toList.map ρ).toArray = args.map ρ := by cases args; simp
      rw [e1] at h3
      exact ⟨r, v, h1, h2, by simp [execOp, resolve, invoke, builtin, h3]⟩
    · exact h.elim
  · rename_i f first caps
    split at h
    · rename_i e
      have e1 : first = #[] := by cases first; simp_all
      subst e1
      refine ⟨_, .func (.func f) #[] (caps.map ρ), h, ?_, ?_⟩
      · simp only [AR]
        refine ⟨_, rfl, ?_⟩
        have := ARs.map he caps.toList
        simpa using this
      · simp [execOp, Instr.makeFunc]
    · exact h.elim
  · exact h.elim
end
end Go.Ev

namespace Go.Ev
open Go

/-- What the key stands for: the newest. -/
def lk {α : Type} : List (Nat × α) → Nat → Option α
  | [], _ => none
  | (k, x) :: l, t => if k = t then some x else lk l t

structure St where
  n : Nat
  env : List (Nat × A)
  heap : List (Nat × Bool × List A)

def St.get (σ : St) (t : Nat) : A := (lk σ.env t).getD (.d .any)
def St.put (σ : St) : Option Nat → A → St
  | some d, r => { σ with env := (d, r) :: σ.env }
  | none, _ => σ
/-- A value, its outermost word known. -/
def A.force (a : A) (K : A → Prop) : Prop :=
  match a with
  | .d x => K (.d x)
  | .ptr b o => K (.ptr b o)
  | .elem c => K (.elem c)
  | .own b o n s => K (.own b o n s)
  | .agg l => K (.agg l)
  | .fn f l => K (.fn f l)
theorem A.force_eq (a : A) (K : A → Prop) : a.force K = K a := by cases a <;> rfl
/-- A slot is written; the state stands written out. -/
def St.putK (σ : St) (dst : Option Nat) (r : A) (K : St → Prop) : Prop :=
  match σ, dst with
  | ⟨n, env, heap⟩, some d => r.force fun r => K ⟨n, (d, r) :: env, heap⟩
  | ⟨n, env, heap⟩, none => K ⟨n, env, heap⟩
theorem St.putK_eq (σ : St) (dst : Option Nat) (r : A) (K : St → Prop) : σ.putK dst r K = K (σ.put dst r) := by
  cases σ
  cases dst
  · rfl
  · simp only [St.putK, A.force_eq]; rfl
abbrev Glob := Nat → List D
def St.ev (G : Glob) (σ : St) : Operand → A
  | .tmp t => σ.get t
  | .const v => constA v
  | .global g => .elem (G g)
  | .func f => .d (.raw (.func (.func f) #[] #[]))
def St.hp (σ : St) (b : Nat) : Option (Bool × List A) := lk σ.heap b

/-- nil as an empty slice, at the top and one level below. -/
def D.dn : D → D
  | .nil => .slice 0 []
  | .agg l => .agg (l.map fun | .nil => .slice 0 [] | x => x)
  | .tup l => .tup (l.map fun | .nil => .slice 0 [] | .agg m => .agg (m.map fun | .nil => .slice 0 [] | x => x) | x => x)
  | x => x

/-- A FUNCTION's CONTRACT, ON DATA: called with what reads as 'args' it returns what reads as r; of memory that was there nothing turns; fresh: what is returned lies in new memory alone. -/
def callable (P : Program) (f : FuncId) : Bool := match P.funcs[f]? with
  | some fn => fn.body.isSome && !(fn.name == "runtime.NumGoroutine")
  | none => false
structure Sim (P : Program) (G : Glob) (fresh : Bool) (f : FuncId) (args : List D) (r : D) : Prop where
  can : callable P f = true
  run : ∀ (S : Imm) (w : World) (vs : List Value), (∀ k o, S k o → k < w.heap.size) → (∀ g, DRL S w g 0 (G g)) → DRs S w args vs →
    Calls P f vs.toArray w fun e w' => ∃ v, e = .returned v ∧ RowKit.Below w.heap.size w w' ∧
      ∃ S' : Imm, (∀ k o, S' k o → (fresh = false ∧ S k o) ∨ (w.heap.size ≤ k ∧ k < w'.heap.size)) ∧ DR S' w' r v

/-- A call, what it gives. -/
inductive CallE (P : Program) (G : Glob) (f : FuncId) (xs : List D) (K : Bool → D → Prop) : Prop where
  | mk (fresh : Bool) (r : D) (h : Sim P G fresh f xs r) (k : K fresh r)
/-- Rows of it can be made. -/
def Ty.rowOk (y : Ty) : Bool := y.size != 0 && !y.zero.isEmpty && y.zero.length == y.size && y.bytes != 0
theorem Ty.rowOk_elim {y : Ty} (h : y.rowOk = true) : y.size ≠ 0 ∧ y.zero ≠ [] ∧ y.zero.length = y.size ∧ y.bytes ≠ 0 := by
  simp only [Ty.rowOk, Bool.and_eq_true, bne_iff_ne, Bool.not_eq_true', List.isEmpty_eq_false_iff, beq_iff_eq] at h
  exact ⟨h.1.1.1, h.1.1.2, h.1.2, h.2⟩

def repA {α : Type} (n : Nat) (z : List α) : List α := (List.replicate n z).flatten

def newEv (T : Tab) (ev : Operand → A) (d : Nat) (op : Op) (K : A → List A → Prop) : Prop :=
  match op with
  | .alloc e => match T e with
    | some y => Cd ((!y.zero.isEmpty) = true) (K (.ptr d 0) (zeros y.zero))
    | none => False
  | .box _ x => Cd ((ev x).full = true) (K (.ptr d 0) (ev x).cells)
  | .makeSlice t l c => tySlice T t fun _ ye => match ev l, ev c with
    | .d (.int _ l), .d (.int _ c) => Cd (l = c) (Cd (0 ≤ l ∧ ye.bytes * l ≤ 140737488355328) (Cd (ye.rowOk = true) (EqE (repA l.toNat (zeros ye.zero)) fun row => K (.own d 0 l.toNat ye.size) row)))
    | _, _ => False
  | .buildSlice t len parts => tySlice T t fun _ ye => Cd ((ye.rowOk && decide (len * ye.size ≤ 4096)) = true)
      (fillA (fun i => some (i * ye.size, ye.size)) (repA len (zeros ye.zero)) (parts.toList.map fun p => (p.1, ev p.2)) fun c => K (.own d 0 len ye.size) c)
  | .slice t x lo hi (some m) => match ev x with
    | .d (.slice _ _) => tySlice T t fun _ ye => match lo, hi with
      | none, some hi => ∃ kh km, ev hi = .d (.int kh 0) ∧ ev m = .d (.int km 0) ∧ K (.own d 0 0 ye.size) []
      | _, _ => False
    | _ => False
  | _ => False

mutual
def A.kill (b : Nat) : A → A
  | .ptr b' o => if b' = b then .d .any else .ptr b' o
  | .own b' o n sz => if b' = b then .d .any else .own b' o n sz
  | .agg l => .agg (A.kills b l)
  | .fn f l => .fn f (A.kills b l)
  | x => x
def A.kills (b : Nat) : List A → List A
  | [] => []
  | x :: l => x.kill b :: A.kills b l
end
@[simp] theorem A.kills_map (b : Nat) : ∀ l : List D, A.kills b (l.map A.d) = l.map A.d
  | [] => rfl
  | x :: l => by simp [A.kills, A.kill, A.kills_map b l]

/-- The block's cells, anew. -/
def hset : List (Nat × Bool × List A) → Nat → List A → List (Nat × Bool × List A)
  | [], _, _ => []
  | (k, f, l) :: h, b, l' => if k = b then (k, f, l') :: h else (k, f, l) :: hset h b l'
def St.wr (σ : St) (b : Nat) (l : List A) : St := { σ with heap := hset σ.heap b l }
def St.kill (σ : St) (b : Nat) : St :=
  { σ with env := σ.env.map fun x => (x.1, x.2.kill b), heap := σ.heap.map fun x => (x.1, x.2.1, A.kills b x.2.2) }
def St.new (σ : St) (d : Nat) (l : List A) : St := { σ with heap := (d, false, l) :: σ.heap }
def St.freeze (σ : St) : List Nat → St
  | [] => σ
  | bs => { σ with heap := σ.heap.map fun x => (x.1, x.2.1 || bs.contains x.1, x.2.2) }

/-- What is appended, as cells. -/
def contentEv (hp : Nat → Option (Bool × List A)) (sz : Nat) (x : A) (K : Nat → List D → Prop) : Prop :=
  match x with
  | .d (.slice n l) => Cd (l.length = n * sz) (K n l)
  | .d .nil => K 0 []
  | .own b o n sz' => match hp b with
    | some (_, l) => DsE l fun ds => Cd (sz' = sz) (Cd (o + n * sz ≤ l.length) (K n ((ds.drop o).take (n * sz))))
    | none => False
  | _ => False

/-- Keys whose block may be another one: not those of the arguments' memory that stays. -/
def okKey (b o : Nat) : Nat := bif (Nat.blt b 1000000 || Nat.ble 2000000 b) then o else o + 1
theorem okKey_elim {b o : Nat} (h : okKey b o = 0) : o = 0 ∧ (b < 1000000 ∨ 2000000 ≤ b) := by
  unfold okKey at h
  cases hb : (Nat.blt b 1000000 || Nat.ble 2000000 b) with
  | false => rw [hb] at h; simp at h
  | true =>
    rw [hb] at h
    simp only [cond_true] at h
    rw [Bool.or_eq_true, Nat.blt_eq, Nat.ble_eq] at hb
    exact ⟨h, hb⟩
def wrEv (T : Tab) (G : Glob) (σ : St) (d : Option Nat) (op : Op) (K : A → St → Prop) : Prop :=
  match op with
  | .store t a x => match σ.ev G a with
    | .ptr b o => match σ.hp b, T t with
      | some (false, l), some y => Cd ((σ.ev G x).full = true) (Cd ((σ.ev G x).cells.length = y.size) (Cd ((σ.ev G x).cells.all A.one = true) (Cd (o + y.size ≤ l.length) (EqE (setAt l o (σ.ev G x).cells) fun row => K (.d .any) (σ.wr b row)))))
      | _, _ => False
    | _ => False
  | .call c => match c.callee, c.argTypes.toList, c.args.toList, d with
    | .builtin .append, [t, t2], [s, x], some d => tySlice T t fun _ ye => Cd (((T t2).any Ty.isSl && ye.rowOk) = true) <|
      contentEv σ.hp ye.size (σ.ev G x) fun m cs => Cd (∀ c ∈ cs, (A.d c).one = true) <| match σ.ev G s with
        | .d .nil => Cd (m * ye.bytes ≤ 70368744177664) (Cd ((σ.hp d).isNone = true) (EqE (cs.map A.d) fun row => K (.own d 0 m ye.size) (σ.new d row)))
        | .own b o n sz => match σ.hp b with
          | some (false, l) => Cd (okKey b o = 0 ∧ sz = ye.size) (Cd (l.length = n * sz) (Cd ((n + m) * ye.bytes ≤ 70368744177664) (DsE l fun _ => EqE (l ++ cs.map A.d) fun row => K (.own b 0 (n + m) sz) ((σ.kill b).wr b row))))
          | _ => False
        | _ => False
    | _, _, _, _ => False
  | _ => False

def argEv1 (hp : Nat → Option (Bool × List A)) (a : A) (K : D → List Nat → Prop) : Prop :=
  match a with
  | .d x => K x.dn []
  | .own b o n sz => match hp b with
    | some (_, l) => DsE l fun ds => EqE (D.slice n ((ds.drop o).take (n * sz))) fun x => K x [b]
    | none => False
  | .ptr b o => match hp b with
    | some (_, l) => DsE l fun ds => K (.ptrd (ds.drop o)) [b]
    | none => False
  | .elem cells => K (.ptrd cells) []
  | _ => False
def argsEv1 (hp : Nat → Option (Bool × List A)) : List A → (List D → List Nat → Prop) → Prop
  | [], K => K [] []
  | a :: as, K => argEv1 hp a fun x bs => argsEv1 hp as fun xs bs' => K (x :: xs) (bs ++ bs')
def argEv (hp : Nat → Option (Bool × List A)) (a : A) (K : D → List Nat → Prop) : Prop :=
  match a with
  | .agg l => argsEv1 hp l fun xs bs => K (.agg xs) bs
  | .fn f l => argsEv1 hp l fun xs bs => K (.fnd f xs) bs
  | a => argEv1 hp a K
def argsEv (hp : Nat → Option (Bool × List A)) : List A → (List D → List Nat → Prop) → Prop
  | [], K => K [] []
  | a :: as, K => argEv hp a fun x bs => argsEv hp as fun xs bs' => K (x :: xs) (bs ++ bs')

def callEv (P : Program) (G : Glob) (σ : St) (op : Op) (K : A → St → Prop) : Prop :=
  match op with
  | .call c => match c.callee with
    | .value (.func f) => argsEv σ.hp (c.args.toList.map (σ.ev G)) fun xs bs => CallE P G f xs fun fresh r => K (.d r) (if fresh then σ else σ.freeze bs)
    | .value x => match σ.ev G x with
      | .fn f cs => argsEv σ.hp (c.args.toList.map (σ.ev G) ++ cs) fun xs bs => CallE P G f xs fun fresh r => K (.d r) (if fresh then σ else σ.freeze bs)
      | _ => False
    | _ => False
  | _ => False

/-- Of which kind: 0 a value · 1 new memory · 2 memory is written · 3 a call. -/
def kindOf : Op → Nat
  | .alloc _ | .box _ _ | .makeSlice _ _ _ | .buildSlice _ _ _ | .slice _ _ _ _ (some _) => 1
  | .store _ _ _ => 2
  | .call c => match c.callee with
    | .builtin .append | .builtin .copy => 2
    | .builtin _ => 0
    | _ => 3
  | _ => 0

def evOp (P : Program) (G : Glob) (T : Tab) (σ : St) (o : Oper) (K : St → Prop) : Prop :=
  match kindOf o.op with
  | 0 => valEv T (σ.ev G) σ.hp o.op fun r => σ.putK o.dst r K
  | 1 => match o.dst with
    | some d => Cd ((σ.hp d).isNone = true) (newEv T (σ.ev G) d o.op fun r l => (σ.new d l).putK (some d) r K)
    | none => False
  | 2 => wrEv T G σ o.dst o.op fun r σ' => σ'.putK o.dst r K
  | _ => callEv P G σ o.op fun r σ' => σ'.putK o.dst r K

/-- The slot of a guard. -/
def gtmp (ops : Array Oper) (j : Nat) : Option Nat := (ops[j]?).bind (·.dst)

def evGuard (ops : Array Oper) (σ : St) (o : Oper) (yes : St → Prop) (no : St → Prop) : Prop :=
  match o.guard with
  | none => yes σ
  | some (j, want) => match gtmp ops j with
    | none => False
    | some g => match σ.get g with
      | .d (.bool t) => match want with
        | true => Br t (σ.putK (some g) (.d (.bool true)) yes) (σ.putK (some g) (.d (.bool false)) no)
        | false => Br t (σ.putK (some g) (.d (.bool true)) no) (σ.putK (some g) (.d (.bool false)) yes)
      | .d (.tup []) => no σ
      | _ => False

def evOps (P : Program) (G : Glob) (T : Tab) (ops : Array Oper) : List Oper → St → (St → Prop) → Prop
  | [], σ, Q => Q σ
  | o :: rest, σ, Q => evGuard ops σ o (fun σ => evOp P G T σ o fun σ' => evOps P G T ops rest σ' Q) (fun σ => σ.putK o.dst (.d (.tup [])) fun σ => evOps P G T ops rest σ Q)


/-- The blocks of a map of keys. -/
def Own.at (M : Own) (k : Nat) : Prop := ∃ b, M b = some (some k)
/-- What the call has left as it was: all but the blocks M. -/
structure Ext (w0 : World) (M : Own) (w : World) : Prop where
  os : w.os = w0.os
  tape : w.tape = w0.tape
  output : w.output = w0.output
  size : w0.heap.size ≤ w.heap.size
  block : ∀ k, k < w0.heap.size → ¬ M.at k → w.heap[k]? = w0.heap[k]?
  shapes : Shapes w0 w

/-- THE STATE AND WHAT IT STANDS FOR. -/
structure Rel (G : Glob) (w0 : World) (M : Own) (S0 : Imm) (σ : St) (a : Act) (w : World) (β : Own) (S : Imm) : Prop where
  defers : a.defers = []
  size : a.tmps.size = σ.n
  env : ∀ t x, lk σ.env t = some x → AR β S w x (a.tmps.getD t undef)
  glob : ∀ g, DRL S w g 0 (G g)
  keys : ∀ b, β b ≠ none → lk σ.heap b ≠ none
  rd : ∀ b k fr l, β b = some (some k) → lk σ.heap b = some (fr, l) → Rd β S w k l
  live : ∀ b k l, β b = some (some k) → lk σ.heap b = some (false, l) → (∀ o, ¬ S k o) ∧ (w0.heap.size ≤ k ∨ M.at k)
  froz : ∀ b k l, β b = some (some k) → lk σ.heap b = some (true, l) → ∃ ds : List D, l = ds.map A.d ∧ DRL S w k 0 ds
  fd : ∀ b l, lk σ.heap b = some (true, l) → ∃ ds : List D, l = ds.map A.d
  nilb : ∀ b fr l, β b = some none → lk σ.heap b = some (fr, l) → l = []
  inj : ∀ b b' k, β b = some (some k) → β b' = some (some k) → b = b'
  imm : ∀ k o, S k o → k < w.heap.size
  old : ∀ k o, S k o → k < w0.heap.size → S0 k o ∨ M.at k
  ext : Ext w0 M w
  stay : ∀ b, 1000000 ≤ b → b < 2000000 → lk σ.heap b ≠ none → β b = M b
  small : σ.n ≤ 1000000
  src : ∀ b k, β b = some (some k) → w0.heap.size ≤ k ∨ M.at k

theorem Rel.get {G : Glob} {w0 : World} {M : Own} {S0 : Imm} {σ : St} {a : Act} {w : World} {β : Own} {S : Imm} (h : Rel G w0 M S0 σ a w β S) (t : Nat) : AR β S w (σ.get t) (a.tmps.getD t undef) := by
  unfold St.get
  cases hl : lk σ.env t with
  | none => simp [AR, DR]
  | some x => exact h.env t x hl
theorem Rel.ev {G : Glob} {w0 : World} {M : Own} {S0 : Imm} {σ : St} {a : Act} {w : World} {β : Own} {S : Imm} (h : Rel G w0 M S0 σ a w β S) (x : Operand) : AR β S w (σ.ev G x) (a.eval x) := by
  cases x with
  | tmp t => exact h.get t
  | const v => exact AR_const v
  | global g => simp only [St.ev, AR, Act.eval]; exact ⟨g, 0, rfl, h.glob g⟩
  | func f => simp only [St.ev, AR, DR, Act.eval]
theorem Rel.hrd {G : Glob} {w0 : World} {M : Own} {S0 : Imm} {σ : St} {a : Act} {w : World} {β : Own} {S : Imm} (h : Rel G w0 M S0 σ a w β S) : HeapRd β S w σ.hp := fun b k fr l hb hl => h.rd b k fr l hb hl

/-- A slot is written. -/
theorem Rel.put {G : Glob} {w0 : World} {M : Own} {S0 : Imm} {σ : St} {a : Act} {w : World} {β : Own} {S : Imm} (h : Rel G w0 M S0 σ a w β S) {dst : Option Nat} {r : A} {v : Value} (hr : AR β S w r v) (hd : ∀ d, dst = some d → d < σ.n) :
    Rel G w0 M S0 (σ.put dst r) (a.put dst v) w β S := by
  cases dst with
  | none => exact h
  | some d =>
    refine { h with defers := ?_, size := ?_, env := ?_ }
    · exact h.defers
    · simpa [Act.put, St.put] using h.size
    · intro t x hx
      simp only [St.put, lk] at hx
      have hdn := hd d rfl
      rw [← h.size] at hdn
      simp only [Act.put]
      split at hx
      · rename_i e
        subst e
        cases hx
        simpa [Array.getElem?_setIfInBounds, hdn] using hr
      · rename_i e
        have := h.env t x hx
        simpa [Array.getElem?_setIfInBounds, e] using this

/-- The semantic reading of a walk. -/
def Wp (P : Program) (G : Glob) (c : Code) (Q : Exit → St → Prop) (σ : St) : Prop :=
  ∀ w0 M S0 a w β S, Rel G w0 M S0 σ a w β S → c.wp P (fun e a' w' => ∃ σ' β' S', Q e σ' ∧ Rel G w0 M S0 σ' a' w' β' S') a w
end Go.Ev

namespace Go.Ev
open Go

def Own.set (β : Own) (d k : Nat) : Own := fun b => if b = d then some (some k) else β b
def Own.gh (β : Own) (d : Nat) : Own := fun b => if b = d then some none else β b

section
variable {P : Program} {G : Glob} {T : Tab} {w0 : World} {M : Own} {S0 : Imm} {σ : St} {a : Act} {w w' : World} {β : Own} {S : Imm}

theorem cell_of_heap {b o : Nat} (h : w'.heap[b]? = w.heap[b]?) : w'.cell? ⟨b, o, none⟩ = w.cell? ⟨b, o, none⟩ := by
  simp only [World.cell?, h]

/-- The old blocks lie as they lay. -/
def Olds (w w' : World) : Prop := ∀ k, k < w.heap.size → w'.heap[k]? = w.heap[k]?
theorem Olds.keeps (h : Olds w w') (hS : ∀ k o, S k o → k < w.heap.size) : Keeps S w w' := fun b _ hb => cell_of_heap (h b (hS _ _ hb))
theorem lt_of_heap {k : Nat} {o : Obj} (h : w.heap[k]? = some o) : k < w.heap.size := by
  rcases Nat.lt_or_ge k w.heap.size with h' | h'
  · exact h'
  · simp [Array.getElem?_eq_none h'] at h
theorem Olds.shapes (h : Olds w w') : Shapes w w' := fun k C Tc fr hk => ⟨C, by rw [h k (lt_of_heap hk)]; exact hk, rfl⟩

theorem Ext.olds (h : Ext w0 M w) (ho : Olds w w') (hos : w'.os = w.os) (ht : w'.tape = w.tape) (hout : w'.output = w.output) (hs : w.heap.size ≤ w'.heap.size) : Ext w0 M w' where
  os := hos.trans h.os
  tape := ht.trans h.tape
  output := hout.trans h.output
  size := Nat.le_trans h.size hs
  block := fun k hk hM => (ho k (Nat.lt_of_lt_of_le hk h.size)).trans (h.block k hk hM)
  shapes := fun k C Tc fr hk => by
    obtain ⟨C', h1, h2⟩ := h.shapes k C Tc fr hk
    exact ⟨C', by rw [ho k (lt_of_heap h1)]; exact h1, h2⟩

theorem Rd.mono {β' : Own} {S' : Imm} {k : Nat} {l : List A} (hβ : β.le β') (hS : S.le S') (hw : Keeps S w w') (hs : Shapes w w') (hk : w'.heap[k]? = w.heap[k]?) (h : Rd β S w k l) : Rd β' S' w' k l := by
  obtain ⟨C, Tc, hC, hl, hc⟩ := h
  refine ⟨C, Tc, hk.trans hC, hl, fun j x hx => ?_⟩
  obtain ⟨u, hu, hR⟩ := hc j x hx
  exact ⟨u, hu, AR.mono hβ hS hw hs hR⟩

/-- The world goes on, old memory as it was; more may be settled of the new. -/
theorem Rel.olds {S' : Imm} (h : Rel G w0 M S0 σ a w β S) (ho : Olds w w') (hos : w'.os = w.os) (ht : w'.tape = w.tape) (hout : w'.output = w.output) (hs : w.heap.size ≤ w'.heap.size)
    (hS : S.le S') (hS' : ∀ k o, S' k o → S k o ∨ (w.heap.size ≤ k ∧ k < w'.heap.size)) : Rel G w0 M S0 σ a w' β S' := by
  have hk := ho.keeps h.imm
  have hsh := ho.shapes
  have hlt : ∀ b k, β b = some (some k) → k < w.heap.size := by
    intro b k hb
    have := h.keys b (by rw [hb]; simp)
    cases hl : lk σ.heap b with
    | none => exact absurd hl this
    | some x =>
      obtain ⟨fr, l⟩ := x
      obtain ⟨C, Tc, hC, _⟩ := h.rd b k fr l hb hl
      exact lt_of_heap hC
  refine { h with env := ?_, glob := ?_, rd := ?_, live := ?_, froz := ?_, imm := ?_, old := ?_, ext := ?_ }
  · exact fun t x hx => AR.mono (fun _ _ h => h) hS hk hsh (h.env t x hx)
  · exact fun g => DRL.mono hS hk (h.glob g)
  · exact fun b k fr l hb hl => Rd.mono (fun _ _ h => h) hS hk hsh (ho k (hlt b k hb)) (h.rd b k fr l hb hl)
  · intro b k l hb hl
    obtain ⟨h1, h2⟩ := h.live b k l hb hl
    refine ⟨fun o hS'' => ?_, h2⟩
    rcases hS' _ _ hS'' with h3 | h3
    · exact h1 _ h3
    · have := hlt b k hb; omega
  · intro b k l hb hl
    obtain ⟨ds, h1, h2⟩ := h.froz b k l hb hl
    exact ⟨ds, h1, DRL.mono hS hk h2⟩
  · intro k o hk'
    rcases hS' _ _ hk' with h3 | h3
    · have := h.imm _ _ h3; omega
    · exact h3.2
  · intro k o hk' hlt0
    rcases hS' _ _ hk' with h3 | h3
    · exact h.old _ _ h3 hlt0
    · have := h.ext.size; omega
  · exact h.ext.olds ho hos ht hout hs

/-- A new block of the call's own. -/
theorem Rel.push (h : Rel G w0 M S0 σ a w β S) {d : Nat} (hd : lk σ.heap d = none) (hdK : d < 1000000) {C : Array Value} {Tc : TypeId} (hw : w'.heap = w.heap.push (.cells C Tc)) (hos : w'.os = w.os) (ht : w'.tape = w.tape) (hout : w'.output = w.output)
    {l : List A} (hl : l.length ≤ C.size) (hc : ∀ (j : Nat) (x : A), l[j]? = some x → ∃ u, C[j]? = some u ∧ AR β S w x u) : Rel G w0 M S0 (σ.new d l) a w' (β.set d w.heap.size) S ∧ β.le (β.set d w.heap.size) ∧ Keeps S w w' ∧ Shapes w w' := by
  have ho : Olds w w' := fun k hk => by rw [hw, Array.getElem?_push, if_neg (by omega)]
  have hs : w.heap.size ≤ w'.heap.size := by rw [hw]; simp
  have hk := ho.keeps h.imm
  have hsh := ho.shapes
  have hβd : β d = none := by
    cases hb : β d with
    | none => rfl
    | some k => exact absurd hd (h.keys d (by rw [hb]; simp))
  have hle : β.le (β.set d w.heap.size) := fun b k hb => by
    unfold Own.set
    rw [if_neg]
    · exact hb
    · rintro rfl; rw [hβd] at hb; cases hb
  have hlt : ∀ b k, β b = some (some k) → k < w.heap.size := by
    intro b k hb
    have := h.keys b (by rw [hb]; simp)
    cases hl : lk σ.heap b with
    | none => exact absurd hl this
    | some x =>
      obtain ⟨fr, l⟩ := x
      obtain ⟨C, Tc, hC, _⟩ := h.rd b k fr l hb hl
      exact lt_of_heap hC
  have hnew : w'.heap[w.heap.size]? = some (.cells C Tc (0, 0)) := by rw [hw]; simp
  refine ⟨?_, hle, hk, hsh⟩
  refine { h with env := ?_, glob := ?_, keys := ?_, rd := ?_, live := ?_, froz := ?_, fd := ?_, nilb := ?_, inj := ?_, imm := ?_, ext := ?_, stay := ?_, src := ?_ }
  · exact fun t x hx => AR.mono hle (fun _ _ h => h) hk hsh (h.env t x hx)
  · exact fun g => DRL.mono (fun _ _ h => h) hk (h.glob g)
  · intro b hb
    simp only [St.new, lk]
    split
    · simp
    · rename_i hne
      have : β b ≠ none := by
        have := hb; unfold Own.set at this; rwa [if_neg (fun e => hne e.symm)] at this
      exact h.keys b this
  · intro b k fr l' hb hl'
    simp only [St.new, lk] at hl'
    unfold Own.set at hb
    split at hl'
    · rename_i e
      subst e
      cases hl'
      simp only [if_true, Option.some.injEq] at hb
      subst hb
      refine ⟨C, Tc, hnew, hl, fun j x hx => ?_⟩
      obtain ⟨u, hu, hR⟩ := hc j x hx
      exact ⟨u, hu, AR.mono hle (fun _ _ h => h) hk hsh hR⟩
    · rename_i hne
      rw [if_neg (fun e => hne e.symm)] at hb
      exact Rd.mono hle (fun _ _ h => h) hk hsh (ho k (hlt b k hb)) (h.rd b k fr l' hb hl')
  · intro b k l' hb hl'
    simp only [St.new, lk] at hl'
    unfold Own.set at hb
    split at hl'
    · rename_i e
      subst e
      simp only [if_true, Option.some.injEq] at hb
      subst hb
      exact ⟨fun o hS => by have := h.imm _ _ hS; omega, .inl h.ext.size⟩
    · rename_i hne
      rw [if_neg (fun e => hne e.symm)] at hb
      exact h.live b k l' hb hl'
  · intro b k l' hb hl'
    simp only [St.new, lk] at hl'
    unfold Own.set at hb
    split at hl'
    · cases hl'
    · rename_i hne
      rw [if_neg (fun e => hne e.symm)] at hb
      obtain ⟨ds, h1, h2⟩ := h.froz b k l' hb hl'
      exact ⟨ds, h1, DRL.mono (fun _ _ h => h) hk h2⟩
  · intro b l' hl'
    simp only [St.new, lk] at hl'
    split at hl'
    · cases hl'
    · exact h.fd b l' hl'
  · intro b fr l' hb hl'
    simp only [St.new, lk] at hl'
    unfold Own.set at hb
    split at hl'
    · rename_i e
      subst e
      simp at hb
    · rename_i hne
      rw [if_neg (fun e => hne e.symm)] at hb
      exact h.nilb b fr l' hb hl'
  · intro b b' k hb hb'
    unfold Own.set at hb hb'
    split at hb <;> split at hb'
    · simp_all
    · cases hb
      have := hlt _ _ hb'; omega
    · cases hb'
      have := hlt _ _ hb; omega
    · exact h.inj _ _ _ hb hb'
  · intro k o hk'
    have := h.imm _ _ hk'
    omega
  · exact h.ext.olds ho hos ht hout hs
  · intro b h1 h2 hb
    simp only [St.new, lk] at hb
    split at hb
    · omega
    · rename_i hne
      unfold Own.set
      rw [if_neg (fun e => hne e.symm)]
      exact h.stay b h1 h2 hb
  · intro b k hb
    unfold Own.set at hb
    split at hb
    · cases hb; exact .inl h.ext.size
    · exact h.src b k hb

/-- A key for nothing: a nil slice of the call's own. -/
theorem Rel.ghost (h : Rel G w0 M S0 σ a w β S) {d : Nat} (hd : lk σ.heap d = none) (hdK : d < 1000000) : Rel G w0 M S0 (σ.new d []) a w (β.gh d) S := by
  have hβd : β d = none := by
    cases hb : β d with
    | none => rfl
    | some k => exact absurd hd (h.keys d (by rw [hb]; simp))
  have hle : β.le (β.gh d) := fun b k hb => by
    unfold Own.gh
    rw [if_neg]
    · exact hb
    · rintro rfl; rw [hβd] at hb; cases hb
  have hk : Keeps S w w := fun _ _ _ => rfl
  have hsh : Shapes w w := fun k C Tc fr hk => ⟨C, hk, rfl⟩
  have hon : ∀ b k, (β.gh d) b = some (some k) → d ≠ b ∧ β b = some (some k) := by
    intro b k hb
    unfold Own.gh at hb
    split at hb
    · cases hb
    · rename_i e; exact ⟨fun e' => e e'.symm, hb⟩
  refine { h with env := ?_, keys := ?_, rd := ?_, live := ?_, froz := ?_, fd := ?_, nilb := ?_, inj := ?_, stay := ?_, src := fun b k hb => h.src b k (hon b k hb).2 }
  · exact fun t x hx => AR.mono hle (fun _ _ h => h) hk hsh (h.env t x hx)
  · intro b hb
    simp only [St.new, lk]
    split
    · simp
    · rename_i hne
      have : β b ≠ none := by
        have := hb; unfold Own.gh at this; rwa [if_neg (fun e => hne e.symm)] at this
      exact h.keys b this
  · intro b k fr l' hb hl'
    obtain ⟨hne, hb⟩ := hon b k hb
    simp only [St.new, lk, if_neg hne] at hl'
    exact Rd.mono hle (fun _ _ h => h) hk hsh rfl (h.rd b k fr l' hb hl')
  · intro b k l' hb hl'
    obtain ⟨hne, hb⟩ := hon b k hb
    simp only [St.new, lk, if_neg hne] at hl'
    exact h.live b k l' hb hl'
  · intro b k l' hb hl'
    obtain ⟨hne, hb⟩ := hon b k hb
    simp only [St.new, lk, if_neg hne] at hl'
    exact h.froz b k l' hb hl'
  · intro b l' hl'
    simp only [St.new, lk] at hl'
    split at hl'
    · cases hl'
    · exact h.fd b l' hl'
  · intro b fr l' hb hl'
    simp only [St.new, lk] at hl'
    split at hl'
    · cases hl'; rfl
    · rename_i hne
      unfold Own.gh at hb
      rw [if_neg (fun e => hne e.symm)] at hb
      exact h.nilb b fr l' hb hl'
  · intro b b' k hb hb'
    exact h.inj b b' k (hon b k hb).2 (hon b' k hb').2
  · intro b h1 h2 hb
    simp only [St.new, lk] at hb
    split at hb
    · omega
    · rename_i hne
      unfold Own.gh
      rw [if_neg (fun e => hne e.symm)]
      exact h.stay b h1 h2 hb

theorem ARs_rep {z : List A} {vz : List Value} (h : ARs β S w z vz) : ∀ n, ARs β S w (repA n z) (repA n vz)
  | 0 => by simp [repA, ARs]
  | n + 1 => by
    have ih := ARs_rep h n
    have e1 : repA (n + 1) z = z ++ repA n z := by simp [repA, List.replicate_succ]
    have e2 : repA (n + 1) vz = vz ++ repA n vz := by simp [repA, List.replicate_succ]
    rw [e1, e2]
    have l1 := ARs_length h
    have l2 := ARs_length ih
    refine ARs_mk (by simp [l1, l2]) fun j x u hx hu => ?_
    rw [List.getElem?_append] at hx hu
    rw [l1] at hu
    split at hx
    · rename_i hlt
      rw [if_pos hlt] at hu
      obtain ⟨u', hu', hR⟩ := ARs_get h hx
      rw [hu] at hu'; cases hu'; exact hR
    · rename_i hlt
      rw [if_neg hlt] at hu
      obtain ⟨u', hu', hR⟩ := ARs_get ih hx
      rw [hu] at hu'; cases hu'; exact hR

theorem length_rep {α : Type} (z : List α) : ∀ n : Nat, (repA n z).length = n * z.length
  | 0 => by simp [repA]
  | n + 1 => by
    have e1 : repA (n + 1) z = z ++ repA n z := by simp [repA, List.replicate_succ]
    rw [e1, List.length_append, length_rep z n, Nat.succ_mul, Nat.add_comm]

theorem range_rep (z : Array Value) (hz : z.size ≠ 0) : ∀ n : Nat, ((Array.range (n * z.size)).map (fun i => z[i % z.size]!)).toList = repA n z.toList := by
  intro n
  refine List.ext_getElem? fun i => ?_
  have hlen : (repA n z.toList).length = n * z.size := by simp [length_rep]
  by_cases hi : i < n * z.size
  · have hm : i % z.size < z.size := Nat.mod_lt _ (by omega)
    have e1 : ((Array.range (n * z.size)).map (fun i => z[i % z.size]!)).toList[i]? = some (z[i % z.size]) := by
      simp [hi, hm]
    rw [e1]
    clear e1 hlen
    induction n generalizing i with
    | zero => simp at hi
    | succ n ih =>
      have e2 : repA (n + 1) z.toList = z.toList ++ repA n z.toList := by simp [repA, List.replicate_succ]
      rw [e2, List.getElem?_append]
      split
      · rename_i h1
        simp at h1
        simp [Nat.mod_eq_of_lt h1, h1]
      · rename_i h1
        simp at h1
        have h2 : i - z.size < n * z.size := by rw [Nat.succ_mul] at hi; omega
        have h3 := ih (i - z.size) h2 (Nat.mod_lt _ (by omega))
        simp only [Array.length_toList]
        rw [← h3]
        congr 1
        have : i % z.size = (i - z.size) % z.size := Nat.mod_eq_sub_mod h1
        simp only [this]
  · rw [List.getElem?_eq_none (by simp; omega), List.getElem?_eq_none (by omega)]

theorem ARs_at {l : List A} {C : Array Value} (h : ARs β S w l C.toList) : l.length ≤ C.size ∧ ∀ (j : Nat) (x : A), l[j]? = some x → ∃ u, C[j]? = some u ∧ AR β S w x u :=
  ⟨by have := ARs_length h; simp at this; omega, fun j x hx => by
    obtain ⟨u, hu, hR⟩ := ARs_get h hx
    exact ⟨u, by simpa using hu, hR⟩⟩

theorem wrap_i64 {n : Int} (h : 0 ≤ n) (h' : n < 9223372036854775808) : IntKind.i64.wrap n = n := by
  have e : IntKind.i64.wrap n = if (true && decide (n % 2 ^ 64 ≥ 2 ^ 63)) = true then n % 2 ^ 64 - 2 ^ 64 else n % 2 ^ 64 := rfl
  rw [e, if_neg (by simp; omega)]
  omega

theorem run_makeSlice' {t e : Nat} {i : TypeInfo} {z : Value} {l : Int} {k k' : IntKind} {s : Nat} (hu : P.underlying t = some (.slice e)) (hi : (typeInfo e).run P w = .ok i w) (hs : (sizeOf e).run P w = .ok s w) (hz : (zeroValue e).run P w = .ok z w)
    (hb : i.bytes ≠ 0) (h0 : 0 ≤ l) (h1 : i.bytes * l ≤ 140737488355328) (hzs : z.cells.size = s) :
    (Instr.makeSlice t (.int k l) (.int k' l)).run P w = .ok (.slice (some ⟨w.heap.size, 0, none⟩) l.toNat l.toNat) (w.alloc (.cells ((Array.range (l.toNat * z.cells.size)).map (fun i => z.cells[i % z.cells.size]!)) e)) := by
  have hlt : l ≤ 140737488355328 := by
    have h2 : (1 : Int) * l ≤ i.bytes * l := Int.mul_le_mul_of_nonneg_right (by omega) h0
    omega
  have hw := wrap_i64 h0 (by omega)
  have hg : (decide (l < 0) || decide ((i.bytes : Int) * l > 2 ^ 48)) = false := by
    simp only [Bool.or_eq_false_iff, decide_eq_false_iff_not]; omega
  have hg2 : ¬ (((decide (l < 0) || decide ((i.bytes : Int) * l > 2 ^ 48)) = true ∨ l < 0) ∨ l > l) := by
    rw [hg]; simp; omega
  subst hzs
  simp only [Instr.makeSlice, Sem.run_bind, run_underlying hu, Result.andThen_ok, asInt, asIntOf, pure_bind, Sem.run_pure, hi, hw]
  rw [if_neg (by simpa using hg2)]
  simp only [Sem.run_bind, run_askRoom, hs, Result.andThen_ok]
  by_cases hn : l.toNat * z.cells.size = 0
  · rw [if_pos hn, hn]
    have e0 : ∀ f : Nat → Value, (Array.range 0).map f = #[] := fun f => by simp
    simp [newRow, e0]
  · rw [if_neg hn]
    simp [hz, newRow]

theorem run_buildSlice' {t e : Nat} {z : Value} {s len : Nat} {parts : Array (Nat × Value)} {vc : Array Value} (hu : P.underlying t = some (.slice e)) (hs : (sizeOf e).run P w = .ok s w) (hz : (zeroValue e).run P w = .ok z w)
    (hl : len * s ≤ 4096) (hzs : z.cells.size = s) (hf : Instr.fill (fun i => some (i * s, s)) ((Array.range (len * z.cells.size)).map (fun i => z.cells[i % z.cells.size]!)) parts.toList = some vc) :
    (Instr.buildSlice t len parts).run P w = .ok (.slice (some ⟨w.heap.size, 0, none⟩) len len) (w.alloc (.cells vc e)) := by
  subst hzs
  simp only [Instr.buildSlice, Sem.run_bind, run_underlying hu, Result.andThen_ok, hs]
  rw [if_neg (by omega)]
  by_cases hn : len * z.cells.size = 0
  · rw [hn] at hf
    have e0 : ((Array.range 0).map (fun i => z.cells[i % z.cells.size]!)) = #[] := by simp
    rw [e0] at hf
    rw [if_pos hn, hn]
    have e1 : ∀ f : Nat → Value, (Array.range 0).map f = #[] := fun f => by simp
    simp only [Sem.run_pure, Result.andThen_ok, Sem.run_bind, e1, hf]
    simp [newRow]
  · rw [if_neg hn]
    simp [hz, newRow, hf]

theorem run_v' {s : Sem Value} {v : Value} (h : s.run P w = .ok v w') : (do pure (.value (← s)) : Sem Next).run P w = .ok (.value v) w' := by
  simp [h]
theorem heap_alloc (w : World) (o : Obj) : (w.alloc o).heap[w.heap.size]? = some o := by
  show (w.heap.push o)[w.heap.size]? = some o
  simp
theorem fill_size {f : Nat → Option (Nat × Nat)} : ∀ (ps : List (Nat × Value)) (cs vc : Array Value), Instr.fill f cs ps = some vc → vc.size = cs.size
  | [], cs, vc, h' => by simp [Instr.fill] at h'; rw [h']
  | p :: ps, cs, vc, h' => by
    obtain ⟨i, v⟩ := p
    simp only [Instr.fill] at h'
    split at h'
    · cases h'
    · rename_i off size _
      split at h'
      · cases h'
      · rw [fill_size ps _ _ h']
        have e2 : ∀ (us : List (Value × Nat)) (cs : Array Value), (us.foldl (fun (cs : Array Value) x => cs.setIfInBounds (off + x.2) x.1) cs).size = cs.size := by
          intro us
          induction us with
          | nil => intro cs; rfl
          | cons u us ih => intro cs; simp [ih]
        rw [← Array.foldl_toList]
        exact e2 _ _

/-- NEW MEMORY. -/
theorem newEv_sound (hT : TabOk P T) (h : Rel G w0 M S0 σ a w β S) {o : Oper} {d : Nat} (hd : lk σ.heap d = none) (hdK : d < 1000000) {K : A → List A → Prop} (hk : newEv T (σ.ev G) d o.op K) :
    ∃ r l v w' β', K r l ∧ (execOp a.eval o).run P w = .ok (.value v) w' ∧ Rel G w0 M S0 (σ.new d l) a w' β' S ∧ AR β' S w' r v := by
  obtain ⟨dst, op, type, pos, after, guard⟩ := o
  simp only at hk
  unfold newEv at hk
  split at hk
  · -- alloc
    rename_i e
    split at hk
    · rename_i y hy
      obtain ⟨hz0, hK⟩ := hk
      have hz : y.zero ≠ [] := by
        intro e; rw [e] at hz0; simp at hz0
      obtain ⟨z, hrz, hzc⟩ := run_zero' hT hy w hz
      have hAR : ARs β S w (zeros y.zero) z.cells.toList := by rw [hzc]; exact zeros_ARs _
      obtain ⟨hl, hc⟩ := ARs_at hAR
      obtain ⟨h1, h2, h3, h4⟩ := h.push (w' := w.alloc (.cells z.cells e)) hd hdK rfl rfl rfl rfl hl hc
      refine ⟨_, _, .pointer (some ⟨w.heap.size, 0, none⟩), _, _, hK, ?_, h1, ?_⟩
      · simp [execOp, Instr.alloc, hrz, newVar, newRow]
      · simp only [AR]; exact ⟨w.heap.size, by simp [Own.set], rfl⟩
    · exact hk.elim
  · -- box
    rename_i e x
    obtain ⟨hf, hK⟩ := hk
    have hAR := A.cells_AR (h.ev x) hf
    obtain ⟨hl, hc⟩ := ARs_at hAR
    obtain ⟨h1, h2, h3, h4⟩ := h.push (w' := w.alloc (.cells (a.eval x).cells e)) hd hdK rfl rfl rfl rfl hl hc
    refine ⟨_, _, .pointer (some ⟨w.heap.size, 0, none⟩), _, _, hK, ?_, h1, ?_⟩
    · simp [execOp, Instr.box, newVar, newRow]
    · simp only [AR]; exact ⟨w.heap.size, by simp [Own.set], rfl⟩
  · -- makeSlice
    rename_i t l c
    obtain ⟨e, ye, hu, hye, hk⟩ := tySlice_elim hT hk
    have hvl := h.ev l
    have hvc := h.ev c
    split at hk
    · rename_i kl il kc ic e1 e2
      rw [e1] at hvl
      rw [e2] at hvc
      simp only [AR, DR] at hvl hvc
      obtain ⟨rfl, ⟨h0, hb⟩, hrow, _, rfl, hK⟩ := hk
      obtain ⟨_, hz, hzl, hb0⟩ := Ty.rowOk_elim hrow
      obtain ⟨z, hrz, hzc⟩ := run_zero' hT hye w hz
      obtain ⟨i, hi, hib, his⟩ := run_typeInfo' hT hye w
      have hzs : z.cells.size = ye.size := by
        have := congrArg List.length hzc
        simpa [hzl] using this
      have hsz : ye.size ≠ 0 := by
        rw [← hzl]; intro h'; exact hz (List.length_eq_zero_iff.1 h')
      have hC := range_rep z.cells (by omega) il.toNat
      have hAR : ARs β S w (repA il.toNat (zeros ye.zero)) ((Array.range (il.toNat * z.cells.size)).map (fun i => z.cells[i % z.cells.size]!)).toList := by
        rw [hC, hzc]; exact ARs_rep (zeros_ARs _) _
      obtain ⟨hl, hc⟩ := ARs_at hAR
      have hrun := run_makeSlice' (P := P) (w := w) (k := kl) (k' := kc) hu hi (run_sizeOf' hT hye w) hrz (by omega) h0 (by rw [hib]; exact hb) hzs
      obtain ⟨h1, h2, h3, h4⟩ := h.push (w' := w.alloc (.cells ((Array.range (il.toNat * z.cells.size)).map (fun i => z.cells[i % z.cells.size]!)) e)) hd hdK rfl rfl rfl rfl hl hc
      refine ⟨_, _, .slice (some ⟨w.heap.size, 0, none⟩) il.toNat il.toNat, _, _, hK, ?_, h1, ?_⟩
      · simp only [execOp, hvl, hvc]; exact run_v' hrun
      · simp only [AR]
        refine .inl ⟨w.heap.size, by simp [Own.set], il.toNat, ((Array.range (il.toNat * z.cells.size)).map (fun i => z.cells[i % z.cells.size]!)), e, (0, 0), rfl, Nat.le_refl _, heap_alloc _ _, ?_⟩
        simp [hzs]
    · exact hk.elim
  · -- buildSlice
    rename_i t len parts
    obtain ⟨e, ye, hu, hye, hrow, hk⟩ := tySlice_elim hT hk
    simp only [Bool.and_eq_true, decide_eq_true_eq] at hrow
    obtain ⟨hrow, hlen⟩ := hrow
    obtain ⟨_, hz, hzl, _⟩ := Ty.rowOk_elim hrow
    obtain ⟨z, hrz, hzc⟩ := run_zero' hT hye w hz
    have hzs : z.cells.size = ye.size := by
      have := congrArg List.length hzc
      simpa [hzl] using this
    have hsz : ye.size ≠ 0 := by
      rw [← hzl]; intro h'; exact hz (List.length_eq_zero_iff.1 h')
    have hC := range_rep z.cells (by omega) len
    have hAR : ARs β S w (repA len (zeros ye.zero)) ((Array.range (len * z.cells.size)).map (fun i => z.cells[i % z.cells.size]!)).toList := by
      rw [hC, hzc]; exact ARs_rep (zeros_ARs _) _
    have hp : PartsR β S w (parts.toList.map fun p => (p.1, σ.ev G p.2)) (parts.map fun p => (p.1, a.eval p.2)).toList := by
      simpa using PartsR.map (fun x => h.ev x) parts.toList
    obtain ⟨c, vc, hK, hR, hfill⟩ := fillA_sound hk hp hAR
    have hrun := run_buildSlice' (P := P) (w := w) (parts := parts.map fun p => (p.1, a.eval p.2)) hu (run_sizeOf' hT hye w) hrz hlen hzs hfill
    obtain ⟨hl, hc⟩ := ARs_at hR
    obtain ⟨h1, h2, h3, h4⟩ := h.push (w' := w.alloc (.cells vc e)) hd hdK rfl rfl rfl rfl hl hc
    have hsize : vc.size = len * ye.size := by
      rw [fill_size _ _ _ hfill]
      simp [hzs]
    refine ⟨_, _, .slice (some ⟨w.heap.size, 0, none⟩) len len, _, _, hK, ?_, h1, ?_⟩
    · simp only [execOp]; exact run_v' hrun
    · simp only [AR]
      exact .inl ⟨w.heap.size, by simp [Own.set], len, vc, e, (0, 0), rfl, Nat.le_refl _, heap_alloc _ _, by omega⟩
  · -- x[:0:0]
    rename_i t x lo hi m
    split at hk
    · rename_i n cells e1
      have hx := h.ev x
      rw [e1] at hx
      obtain ⟨e, ye, hu, hye, hk⟩ := tySlice_elim hT hk
      split at hk
      · rename_i hi _
        obtain ⟨kh, km, e2, e3, hK⟩ := hk
        have hvh := h.ev hi
        have hvm := h.ev m
        rw [e2] at hvh
        rw [e3] at hvm
        simp only [AR, DR] at hx hvh hvm
        obtain ⟨b, c, hx, hc, hl⟩ := hx
        refine ⟨_, _, .slice b 0 0, w, _, hK, ?_, h.ghost hd hdK, ?_⟩
        · simp only [execOp]
          refine run_v ?_
          simp [Instr.sliceAt, Instr.slice, run_underlying hu, hx, hvh, hvm, Instr.sliceBounds, run_sliceBound, run_sizeOf' hT hye]
        · simp only [AR]; exact .inr ⟨trivial, by simp [Own.gh], b, rfl⟩
      · exact hk.elim
    · exact hk.elim
  · exact hk.elim
end
end Go.Ev

namespace Go.Ev
open Go
section
variable {P : Program} {G : Glob} {T : Tab} {w0 : World} {M : Own} {S0 : Imm} {σ : St} {a : Act} {w w' : World} {β : Own} {S : Imm}

theorem lk_hset : ∀ (h : List (Nat × Bool × List A)) (b : Nat) (l : List A) (t : Nat), lk (hset h b l) t = if t = b then (lk h t).map (fun x => (x.1, l)) else lk h t
  | [], b, l, t => by simp [hset, lk]
  | (k, f, l0) :: h, b, l, t => by
    simp only [hset]
    by_cases hk : k = b
    · subst hk
      rw [if_pos rfl]
      simp only [lk]
      by_cases ht : k = t
      · subst ht; simp
      · rw [if_neg ht, if_neg ht, if_neg (fun e => ht e.symm)]
    · rw [if_neg hk]
      simp only [lk]
      by_cases ht : k = t
      · subst ht; simp [hk]
      · rw [if_neg ht, if_neg ht]; exact lk_hset h b l t

/-- One block of the call's own is written. -/
theorem Rel.write (h : Rel G w0 M S0 σ a w β S) {b k : Nat} {l l' : List A} {C C' : Array Value} {Tc : TypeId} (hb : β b = some (some k)) (hl : lk σ.heap b = some (false, l)) (hC : w.heap[k]? = some (.cells C Tc (0, 0))) (hC' : w'.heap[k]? = some (.cells C' Tc (0, 0)))
    (hsz : C'.size = C.size) (hoth : ∀ j, j ≠ k → w'.heap[j]? = w.heap[j]?) (hws : w'.heap.size = w.heap.size) (hos : w'.os = w.os) (ht : w'.tape = w.tape) (hout : w'.output = w.output)
    (hl' : l'.length ≤ C'.size) (hc : ∀ (j : Nat) (x : A), l'[j]? = some x → ∃ u, C'[j]? = some u ∧ AR β S w x u) :
    Rel G w0 M S0 (σ.wr b l') a w' β S ∧ Keeps S w w' ∧ Shapes w w' := by
  obtain ⟨hlive, hbase⟩ := h.live b k l hb hl
  have hk : Keeps S w w' := fun j o hS => cell_of_heap (hoth j (fun e => hlive o (e ▸ hS)))
  have hsh : Shapes w w' := fun j Cj Tj fr hj => by
    by_cases e : j = k
    · subst e
      rw [hC] at hj; cases hj
      exact ⟨C', hC', hsz⟩
    · exact ⟨Cj, by rw [hoth j e]; exact hj, rfl⟩
  have hlek : β.le β := fun _ _ h => h
  have hleS : S.le S := fun _ _ h => h
  refine ⟨?_, hk, hsh⟩
  refine { h with env := ?_, glob := ?_, keys := ?_, rd := ?_, live := ?_, froz := ?_, fd := ?_, nilb := ?_, imm := ?_, ext := ?_, stay := ?_ }
  · exact fun t x hx => AR.mono hlek hleS hk hsh (h.env t x hx)
  · exact fun g => DRL.mono hleS hk (h.glob g)
  · intro b' hb'
    have := h.keys b' hb'
    simp only [St.wr, lk_hset]
    split
    · cases hh : lk σ.heap b' with
      | none => exact absurd hh this
      | some x => simp
    · exact this
  · intro b' k' fr l1 hb' hl1
    simp only [St.wr, lk_hset] at hl1
    split at hl1
    · rename_i e
      subst e
      rw [hb] at hb'; cases hb'
      rw [hl] at hl1; cases hl1
      refine ⟨C', Tc, hC', hl', fun j x hx => ?_⟩
      obtain ⟨u, hu, hR⟩ := hc j x hx
      exact ⟨u, hu, AR.mono hlek hleS hk hsh hR⟩
    · rename_i e
      have hne : k' ≠ k := fun e' => e (h.inj b' b k' hb' (e' ▸ hb))
      exact Rd.mono hlek hleS hk hsh (hoth k' hne) (h.rd b' k' fr l1 hb' hl1)
  · intro b' k' l1 hb' hl1
    simp only [St.wr, lk_hset] at hl1
    split at hl1
    · rename_i e
      subst e
      rw [hb] at hb'; cases hb'
      exact ⟨hlive, hbase⟩
    · exact h.live b' k' l1 hb' hl1
  · intro b' k' l1 hb' hl1
    simp only [St.wr, lk_hset] at hl1
    split at hl1
    · rename_i e
      subst e
      rw [hl] at hl1; cases hl1
    · obtain ⟨ds, h1, h2⟩ := h.froz b' k' l1 hb' hl1
      exact ⟨ds, h1, DRL.mono hleS hk h2⟩
  · intro b' l1 hl1
    simp only [St.wr, lk_hset] at hl1
    split at hl1
    · rename_i e
      subst e
      rw [hl] at hl1; cases hl1
    · exact h.fd b' l1 hl1
  · intro b' fr l1 hb' hl1
    simp only [St.wr, lk_hset] at hl1
    split at hl1
    · rename_i e
      subst e
      rw [hb] at hb'; cases hb'
    · exact h.nilb b' fr l1 hb' hl1
  · intro k' o hS
    rw [hws]; exact h.imm k' o hS
  · refine ⟨hos.trans h.ext.os, ht.trans h.ext.tape, hout.trans h.ext.output, by rw [hws]; exact h.ext.size, fun j hj hM => ?_, fun j Cj Tj fr hj => ?_⟩
    · have hne : j ≠ k := by
        rintro rfl
        rcases hbase with h1 | h1
        · omega
        · exact hM h1
      rw [hoth j hne]; exact h.ext.block j hj hM
    · obtain ⟨C1, h1, h2⟩ := h.ext.shapes j Cj Tj fr hj
      obtain ⟨C2, h3, h4⟩ := hsh j C1 Tj fr h1
      exact ⟨C2, h3, by omega⟩
  · intro b' h1 h2 hb'
    refine h.stay b' h1 h2 fun e => hb' ?_
    simp only [St.wr, lk_hset]
    split
    · rw [e]; rfl
    · exact e

/-- Stores, one after another. -/
theorem run_storeCells' {k : Nat} {Tc : TypeId} : ∀ (vs : List Value) (C : Array Value) (o i : Nat) (w : World), (∀ v ∈ vs, v.oneCell' = true) → w.heap[k]? = some (.cells C Tc (0, 0)) → o + i + vs.length ≤ C.size →
    ∃ w' C', (storeCells ⟨k, o, none⟩ vs i).run P w = .ok () w' ∧ w'.heap[k]? = some (.cells C' Tc (0, 0)) ∧ C'.toList = setAt C.toList (o + i) vs ∧ (∀ j, j ≠ k → w'.heap[j]? = w.heap[j]?) ∧ w'.heap.size = w.heap.size ∧ w'.os = w.os ∧ w'.tape = w.tape ∧ w'.output = w.output
  | [], C, o, i, w, _, hC, _ => ⟨w, C, by simp [storeCells], hC, by simp [setAt], fun _ _ => rfl, rfl, rfl, rfl, rfl⟩
  | v :: vs, C, o, i, w, hv, hC, hl => by
    simp only [List.length_cons] at hl
    have hcell : ∃ u, w.cell? ⟨k, o + i, none⟩ = some u := by
      rw [cell_of_block hC]
      exact ⟨C[o + i]'(by omega), by simp [show o + i < C.size by omega]⟩
    obtain ⟨u, hu⟩ := hcell
    have hfz : w.frozen? ⟨k, o + i, none⟩ = false := by simp [World.frozen?, hC]
    have hC1 : (w.setCell ⟨k, o + i, none⟩ v).heap[k]? = some (.cells (C.setIfInBounds (o + i) v) Tc (0, 0)) := by
      simp [World.setCell, Array.getElem?_modify, hC]
    obtain ⟨w', C', h1, h2, h3, h4, h5, h6, h7, h8⟩ := run_storeCells' vs (C.setIfInBounds (o + i) v) o (i + 1) (w.setCell ⟨k, o + i, none⟩ v) (fun x hx => hv x (by simp [hx])) hC1 (by simp; omega)
    refine ⟨w', C', ?_, h2, ?_, fun j hj => ?_, ?_, h6, h7, h8⟩
    · simp only [storeCells, Sem.run_bind, add_none]
      rw [run_store P w _ v .plain (hv v (by simp))]
      simp only [hu, hfz, Result.andThen_ok]
      exact h1
    · rw [h3]
      simp [setAt, Nat.add_assoc]
    · rw [h4 j hj]
      simp only [World.setCell, Array.getElem?_modify]
      rw [if_neg (fun e => hj e.symm)]
    · rw [h5]; simp

theorem A.one_val {x : A} {v : Value} (h : AR β S w x v) (hx : x.one = true) : v.oneCell' = true := by
  cases x with
  | d y =>
    cases y with
    | any => simp [A.one] at hx
    | agg _ => simp [A.one] at hx
    | tup _ => simp [A.one] at hx
    | fnd _ _ => simp [A.one] at hx
    | ptrd c => simp only [AR, DR] at h; obtain ⟨k, o, rfl, _⟩ := h; rfl
    | raw u => simp only [AR, DR] at h; subst h; simpa [A.one] using hx
    | slice n l => simp only [AR, DR] at h; obtain ⟨a, c, rfl, _⟩ := h; rfl
    | _ => simp only [AR, DR] at h; subst h; rfl
  | ptr b o => simp only [AR] at h; obtain ⟨k, _, rfl⟩ := h; rfl
  | elem c => simp only [AR] at h; obtain ⟨k, o, rfl, _⟩ := h; rfl
  | own b o n sz => simp only [AR] at h; rcases h with ⟨k, _, c, C, T, fr, rfl, _⟩ | ⟨_, _, a, rfl⟩ <;> rfl
  | agg l => simp [A.one] at hx
  | fn f l => simp [A.one] at hx

theorem store_sound (hT : TabOk P T) (h : Rel G w0 M S0 σ a w β S) {t : Nat} {ad x : Operand} {K : A → St → Prop} (hk : wrEv T G σ none (.store t ad x) K) :
    ∃ r σ' w', K r σ' ∧ (Instr.storeAt t (a.eval ad) (a.eval x)).run P w = .ok () w' ∧ Rel G w0 M S0 σ' a w' β S ∧ r = .d .any ∧ σ'.n = σ.n := by
  simp only [wrEv] at hk
  have had := h.ev ad
  have hx := h.ev x
  split at hk
  · rename_i b o e1
    rw [e1] at had
    simp only [AR] at had
    obtain ⟨k, hb, hv⟩ := had
    split at hk
    · rename_i l y hl hy
      obtain ⟨hf, hlen, hone0, ho, _, rfl, hK⟩ := hk
      have hone := List.all_eq_true.1 hone0
      obtain ⟨C, Tc, hC, hlC, hcell⟩ := h.rd b k _ _ hb hl
      have hAR := A.cells_AR hx hf
      have e2 := ARs_length hAR
      obtain ⟨w', C', h1, h2, h3, h4, h5, h6, h7, h8⟩ := run_storeCells' (P := P) (k := k) (Tc := Tc) (a.eval x).cells.toList C o 0 w (fun v hv => by
        obtain ⟨j, hj⟩ := List.getElem?_of_mem hv
        have : j < (σ.ev G x).cells.length := by
          have := (List.getElem?_eq_some_iff.1 hj).1; omega
        obtain ⟨u, hu, hR⟩ := ARs_get hAR (j := j) (x := (σ.ev G x).cells[j]) (by simp [this])
        rw [hj] at hu; cases hu
        exact A.one_val hR (hone _ (List.getElem_mem _))) hC (by omega)
      have hsz : C'.size = C.size := by
        have := congrArg List.length h3
        simpa [length_setAt] using this
      obtain ⟨h9, _, _⟩ := h.write (l' := setAt l o (σ.ev G x).cells) hb hl hC h2 hsz h4 h5 h6 h7 h8 (by simp [length_setAt]; omega) (fun j z hj => by
        rw [getElem?_setAt _ _ _ _ (by omega)] at hj
        have hC'j : C'[j]? = (setAt C.toList o (a.eval x).cells.toList)[j]? := by
          have : C'[j]? = C'.toList[j]? := by simp
          rw [this, h3]; rfl
        rw [hC'j, getElem?_setAt _ _ _ _ (by simp at e2 ⊢; omega)]
        split at hj
        · rename_i hc
          rw [if_pos (by omega)]
          exact ARs_get hAR hj
        · rename_i hc
          rw [if_neg (by omega)]
          obtain ⟨u, hu, hR⟩ := hcell j z hj
          exact ⟨u, by simpa using hu, hR⟩)
      refine ⟨_, _, w', hK, ?_, h9, rfl, rfl⟩
      rw [hv]
      simp only [Instr.storeAt, Instr.sureAddr, pure_bind, storeVar, Sem.run_bind, run_sizeOf' hT hy, Result.andThen_ok]
      rw [if_neg (by simp at e2 ⊢; omega)]
      exact h1
    · exact hk.elim
  · exact hk.elim

mutual
theorem AR_kill {β' : Own} {b : Nat} (hβ : ∀ c, c ≠ b → β' c = β c) : ∀ {x : A} {v : Value}, AR β S w x v → AR β' S w (x.kill b) v
  | .d x, v, h => by simp only [A.kill, AR] at h ⊢; exact h
  | .elem x, v, h => by simp only [A.kill, AR] at h ⊢; exact h
  | .ptr c o, v, h => by
    simp only [A.kill]
    split
    · simp only [AR, DR]
    · rename_i e
      simp only [AR, hβ c e] at h ⊢; exact h
  | .own c o n sz, v, h => by
    simp only [A.kill]
    split
    · simp only [AR, DR]
    · rename_i e
      simp only [AR, hβ c e] at h ⊢; exact h
  | .agg l, v, h => by
    simp only [A.kill, AR] at h ⊢
    obtain ⟨vs, rfl, h⟩ := h
    exact ⟨vs, rfl, ARs_kill hβ h⟩
  | .fn f l, v, h => by
    simp only [A.kill, AR] at h ⊢
    obtain ⟨vs, rfl, h⟩ := h
    exact ⟨vs, rfl, ARs_kill hβ h⟩
theorem ARs_kill {β' : Own} {b : Nat} (hβ : ∀ c, c ≠ b → β' c = β c) : ∀ {l : List A} {vs : List Value}, ARs β S w l vs → ARs β' S w (A.kills b l) vs
  | [], vs, h => by simpa [A.kills, ARs] using h
  | x :: l, vs, h => by
    simp only [A.kills, ARs] at h ⊢
    obtain ⟨u, us, rfl, h1, h2⟩ := h
    exact ⟨u, us, rfl, AR_kill hβ h1, ARs_kill hβ h2⟩
end
theorem kills_get {b : Nat} : ∀ {l : List A} {j : Nat} {x : A}, (A.kills b l)[j]? = some x → ∃ y, l[j]? = some y ∧ x = y.kill b
  | [], j, x, h => by simp [A.kills] at h
  | y :: l, 0, x, h => by simp [A.kills] at h; exact ⟨y, rfl, h.symm⟩
  | y :: l, j + 1, x, h => by
    simp only [A.kills, List.getElem?_cons_succ] at h
    obtain ⟨z, h1, h2⟩ := kills_get h
    exact ⟨z, by simpa using h1, h2⟩
theorem length_kills {b : Nat} : ∀ l : List A, (A.kills b l).length = l.length
  | [] => rfl
  | x :: l => by simp [A.kills, length_kills l]
theorem lk_mapA (b : Nat) : ∀ (l : List (Nat × A)) (t : Nat), lk (l.map fun x => (x.1, x.2.kill b)) t = (lk l t).map (A.kill b)
  | [], t => rfl
  | (k, x) :: l, t => by
    simp only [List.map_cons, lk]
    split
    · rfl
    · exact lk_mapA b l t
theorem lk_mapH (b : Nat) : ∀ (l : List (Nat × Bool × List A)) (t : Nat), lk (l.map fun x => (x.1, x.2.1, A.kills b x.2.2)) t = (lk l t).map fun x => (x.1, A.kills b x.2)
  | [], t => rfl
  | (k, x) :: l, t => by
    simp only [List.map_cons, lk]
    split
    · rfl
    · exact lk_mapH b l t
theorem map_d_of_kills {b : Nat} {l : List A} {ds : List D} (h : l = ds.map A.d) : A.kills b l = ds.map A.d := by subst h; simp

theorem Rd.kill {β' : Own} {b k : Nat} {l : List A} (hβ : ∀ c, c ≠ b → β' c = β c) (h : Rd β S w k l) : Rd β' S w k (A.kills b l) := by
  obtain ⟨C, Tc, hC, hl, hc⟩ := h
  refine ⟨C, Tc, hC, by rw [length_kills]; exact hl, fun j x hx => ?_⟩
  obtain ⟨y, hy, rfl⟩ := kills_get hx
  obtain ⟨u, hu, hR⟩ := hc j y hy
  exact ⟨u, hu, AR_kill hβ hR⟩

/-- All views of a block are forgotten. -/
theorem Rel.kill (h : Rel G w0 M S0 σ a w β S) (b : Nat) : Rel G w0 M S0 (σ.kill b) a w β S := by
  refine { h with env := ?_, keys := ?_, rd := ?_, live := ?_, froz := ?_, fd := ?_, nilb := ?_, stay := ?_ }
  · intro t x hx
    simp only [St.kill, lk_mapA, Option.map_eq_some_iff] at hx
    obtain ⟨y, hy, rfl⟩ := hx
    exact AR_kill (fun _ _ => rfl) (h.env t y hy)
  · intro c hc
    have := h.keys c hc
    simp only [St.kill, lk_mapH]
    cases hh : lk σ.heap c with
    | none => exact absurd hh this
    | some x => simp
  · intro c k fr l hc hl
    simp only [St.kill, lk_mapH, Option.map_eq_some_iff] at hl
    obtain ⟨y, hy, e⟩ := hl
    obtain ⟨fr', l'⟩ := y
    cases e
    exact Rd.kill (fun _ _ => rfl) (h.rd c k _ _ hc hy)
  · intro c k l hc hl
    simp only [St.kill, lk_mapH, Option.map_eq_some_iff] at hl
    obtain ⟨y, hy, e⟩ := hl
    obtain ⟨fr', l'⟩ := y
    cases e
    exact h.live c k _ hc hy
  · intro c k l hc hl
    simp only [St.kill, lk_mapH, Option.map_eq_some_iff] at hl
    obtain ⟨y, hy, e⟩ := hl
    obtain ⟨fr', l'⟩ := y
    cases e
    obtain ⟨ds, h1, h2⟩ := h.froz c k _ hc hy
    exact ⟨ds, map_d_of_kills h1, h2⟩
  · intro c l hl
    simp only [St.kill, lk_mapH, Option.map_eq_some_iff] at hl
    obtain ⟨y, hy, e⟩ := hl
    obtain ⟨fr', l'⟩ := y
    cases e
    obtain ⟨ds, h1⟩ := h.fd c _ hy
    exact ⟨ds, map_d_of_kills h1⟩
  · intro c fr l hc hl
    simp only [St.kill, lk_mapH, Option.map_eq_some_iff] at hl
    obtain ⟨y, hy, e⟩ := hl
    obtain ⟨fr', l'⟩ := y
    cases e
    have := h.nilb c _ _ hc hy
    simp only at this ⊢
    rw [this]; rfl
  · intro c h1 h2 hc
    refine h.stay c h1 h2 fun e => hc ?_
    simp only [St.kill, lk_mapH, e]; rfl

/-- What the key b stands for lies in a new block from now on. -/
theorem Rel.move (h : Rel G w0 M S0 σ a w β S) {b : Nat} {fr0 : Bool} {l l' : List A} (hb : lk σ.heap b = some (fr0, l)) (hfr : fr0 = false) (hbK : b < 1000000 ∨ 2000000 ≤ b) {C : Array Value} {Tc : TypeId} (hw : w'.heap = w.heap.push (.cells C Tc)) (hos : w'.os = w.os) (ht : w'.tape = w.tape) (hout : w'.output = w.output)
    (hl : l'.length ≤ C.size) (hc : ∀ (j : Nat) (x : A), l'[j]? = some x → ∃ u, C[j]? = some u ∧ AR (β.set b w.heap.size) S w' x u) : Rel G w0 M S0 ((σ.kill b).wr b l') a w' (β.set b w.heap.size) S := by
  have ho : Olds w w' := fun k hk => by rw [hw, Array.getElem?_push, if_neg (by omega)]
  have hs : w.heap.size ≤ w'.heap.size := by rw [hw]; simp
  have hk := ho.keeps h.imm
  have hsh := ho.shapes
  have hβ : ∀ c, c ≠ b → (β.set b w.heap.size) c = β c := fun c hc => by unfold Own.set; rw [if_neg hc]
  have hlt : ∀ b k, β b = some (some k) → k < w.heap.size := by
    intro b k hb
    have := h.keys b (by rw [hb]; simp)
    cases hl : lk σ.heap b with
    | none => exact absurd hl this
    | some x =>
      obtain ⟨fr, l⟩ := x
      obtain ⟨C, Tc, hC, _⟩ := h.rd b k fr l hb hl
      exact lt_of_heap hC
  have hnew : w'.heap[w.heap.size]? = some (.cells C Tc (0, 0)) := by rw [hw]; simp
  have hle : β.le β := fun _ _ h => h
  have hleS : S.le S := fun _ _ h => h
  have hlook : ∀ c fr l1, lk ((σ.kill b).wr b l').heap c = some (fr, l1) → (c = b ∧ fr = false ∧ l1 = l') ∨ (c ≠ b ∧ ∃ l2, lk σ.heap c = some (fr, l2) ∧ l1 = A.kills b l2) := by
    intro c fr l1 hl1
    simp only [St.wr, St.kill, lk_hset, lk_mapH] at hl1
    split at hl1
    · rename_i e
      subst e
      rw [hb] at hl1
      simp only [Option.map_some, Option.some.injEq, Prod.mk.injEq] at hl1
      exact .inl ⟨rfl, by rw [← hl1.1, hfr], hl1.2.symm⟩
    · rename_i e
      simp only [Option.map_eq_some_iff] at hl1
      obtain ⟨y, hy, e'⟩ := hl1
      obtain ⟨fr', l2⟩ := y
      cases e'
      exact .inr ⟨e, l2, hy, rfl⟩
  refine { h with env := ?_, glob := ?_, keys := ?_, rd := ?_, live := ?_, froz := ?_, fd := ?_, nilb := ?_, inj := ?_, imm := ?_, ext := ?_, stay := ?_, src := ?_ }
  · intro t x hx
    simp only [St.wr, St.kill, lk_mapA, Option.map_eq_some_iff] at hx
    obtain ⟨y, hy, rfl⟩ := hx
    exact AR_kill hβ (AR.mono hle hleS hk hsh (h.env t y hy))
  · exact fun g => DRL.mono hleS hk (h.glob g)
  · intro c hck
    simp only [St.wr, St.kill, lk_hset, lk_mapH]
    split
    · rename_i e
      subst e
      rw [hb]; simp
    · rename_i e
      rw [hβ c e] at hck
      have := h.keys c hck
      cases hh : lk σ.heap c with
      | none => exact absurd hh this
      | some x => simp
  · intro c k fr l1 hck hl1
    rcases hlook c fr l1 hl1 with ⟨rfl, rfl, rfl⟩ | ⟨e, l2, h1, rfl⟩
    · simp only [Own.set, if_true, Option.some.injEq] at hck
      subst hck
      exact ⟨C, Tc, hnew, hl, hc⟩
    · rw [hβ c e] at hck
      exact Rd.kill hβ (Rd.mono hle hleS hk hsh (ho k (hlt c k hck)) (h.rd c k fr l2 hck h1))
  · intro c k l1 hck hl1
    rcases hlook c _ l1 hl1 with ⟨rfl, _, rfl⟩ | ⟨e, l2, h1, rfl⟩
    · simp only [Own.set, if_true, Option.some.injEq] at hck
      subst hck
      exact ⟨fun o hS => by have := h.imm _ _ hS; omega, .inl h.ext.size⟩
    · rw [hβ c e] at hck
      exact h.live c k l2 hck h1
  · intro c k l1 hck hl1
    rcases hlook c _ l1 hl1 with ⟨rfl, h0, rfl⟩ | ⟨e, l2, h1, rfl⟩
    · cases h0
    · rw [hβ c e] at hck
      obtain ⟨ds, h2, h3⟩ := h.froz c k l2 hck h1
      exact ⟨ds, map_d_of_kills h2, DRL.mono hleS hk h3⟩
  · intro c l1 hl1
    rcases hlook c _ l1 hl1 with ⟨rfl, h0, rfl⟩ | ⟨e, l2, h1, rfl⟩
    · cases h0
    · obtain ⟨ds, h2⟩ := h.fd c l2 h1
      exact ⟨ds, map_d_of_kills h2⟩
  · intro c fr l1 hck hl1
    rcases hlook c _ l1 hl1 with ⟨rfl, h0, rfl⟩ | ⟨e, l2, h1, rfl⟩
    · simp [Own.set] at hck
    · rw [hβ c e] at hck
      rw [h.nilb c fr l2 hck h1]; rfl
  · intro c c' k hb1 hb2
    unfold Own.set at hb1 hb2
    split at hb1 <;> split at hb2
    · simp_all
    · cases hb1
      have := hlt _ _ hb2; omega
    · cases hb2
      have := hlt _ _ hb1; omega
    · exact h.inj _ _ _ hb1 hb2
  · intro k o hS
    have := h.imm _ _ hS; omega
  · exact h.ext.olds ho hos ht hout hs
  · intro c h1 h2 hc
    have hcb : c ≠ b := by omega
    rw [hβ c hcb]
    refine h.stay c h1 h2 fun e => hc ?_
    simp only [St.wr, St.kill, lk_hset, lk_mapH, if_neg hcb, e]; rfl
  · intro c k hck
    unfold Own.set at hck
    split at hck
    · cases hck; exact .inl h.ext.size
    · exact h.src c k hck
end
end Go.Ev
