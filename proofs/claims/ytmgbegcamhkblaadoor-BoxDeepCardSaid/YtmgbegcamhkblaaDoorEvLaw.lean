/- A law that returns true keeps its row: out of its contract on data. -/
import Derived.Test.YtmgbegcamhkblaaDoorEvR
import Derived.Test.YtmgbegcamhkblaaDoorEvCx
import Derived.Carry
import Derived.ChangeSame
import Derived.RowKit
set_option linter.unusedSimpArgs false
set_option linter.unusedVariables false
namespace Go.Ev
open Go Go.RowKit Go.ChangeShapes

/-- An argument of that shape, as data. -/
def Sh.arg : Sh → List D → D
  | .struct _, ds => .agg ds
  | _, ds => ds.headD .any
def ArgOk (s : Sh) (x : D) : Prop := ∃ ds, s.has ds ∧ x = s.arg ds
def ArgsOk : List Sh → List D → Prop
  | [], xs => xs = []
  | s :: ss, xs => ∃ y ys, xs = y :: ys ∧ ArgOk s y ∧ ArgsOk ss ys
def Sh.chks (P : Program) : List Sh → List TypeId → Bool
  | [], [] => true
  | s :: ss, t :: ts => s.chk P t && Sh.chks P ss ts
  | _, _ => false

section
variable {H : Type} {enc : TypeId × Value → H} {P : Program} {w : World}
theorem Sh.one_cell {s : Sh} {ds : List D} (hs : ∀ fs, s ≠ .struct fs) (h : s.has ds) : ∃ x, ds = [x] := by
  cases s with
  | struct fs => exact absurd rfl (hs fs)
  | bool => obtain ⟨b, rfl⟩ := h; exact ⟨_, rfl⟩
  | int k => obtain ⟨n, rfl, _⟩ := h; exact ⟨_, rfl⟩
  | str => obtain ⟨n, rfl, _⟩ := h; exact ⟨_, rfl⟩
  | slice e => obtain ⟨n, ls, rfl, _⟩ := h; exact ⟨_, rfl⟩
theorem argOk_of {n : Nat} {s : Sh} {t : TypeId} {v : Value} {d : DataW H} {ps : List MemPlace} (hc : s.chk P t = true) (ht : DataW.Trod enc P w 0 (fun _ => true) true t v d ps) (hv : Value.okWide P w .any n t v) : ∃ x, ArgOk s x ∧ DR (allImm w) w x v := by
  obtain ⟨fuel, h⟩ := ht
  obtain ⟨ds, hd, hR⟩ := s.of_trod hc h
  refine ⟨_, ⟨ds, hd, rfl⟩, ?_⟩
  cases s with
  | struct fs =>
    simp only [Sh.chk] at hc
    split at hc
    · rename_i l hu
      simp only [Value.okWide, hu] at hv
      obtain ⟨cs, rfl, _⟩ := hv
      simp only [Sh.arg, DR]
      exact ⟨cs, rfl, hR⟩
    · cases hc
  | _ =>
    obtain ⟨x, rfl⟩ := Sh.one_cell (fun _ => Sh.noConfusion) hd
    simp only [DRs] at hR
    obtain ⟨u, us, hu, hx, rfl⟩ := hR
    simp only [Sh.arg, List.headD_cons]
    cases v with
    | agg cs =>
      exfalso
      simp only [Sh.chk] at hc
      split at hc <;> simp_all [Value.okWide, Cell.okWide, Cell.ok]
    | _ => simp [Value.cells] at hu; subst hu; exact hx
theorem argsOk_of {n : Nat} : ∀ {ss : List Sh} {ts : List TypeId} {vs : List Value} {ds : List (DataW H)} {ps : List MemPlace}, Sh.chks P ss ts = true → DataW.TrodAll enc P w 0 (fun _ => true) true ts vs ds ps →
    (∀ (j : Nat) (t : TypeId) (v : Value), ts[j]? = some t → vs[j]? = some v → Value.okWide P w .any n t v) → ∃ xs, ArgsOk ss xs ∧ DRs (allImm w) w xs vs
  | [], [], [], ds, ps, _, h, _ => ⟨[], rfl, rfl⟩
  | s :: ss, t :: ts, v :: vs, [], ps, hc, h, hv => by simp [DataW.TrodAll] at h
  | s :: ss, t :: ts, v :: vs, d :: ds, ps, hc, h, hv => by
    simp only [Sh.chks, Bool.and_eq_true] at hc
    obtain ⟨p, q, h1, h2, _⟩ := h
    obtain ⟨x, hx, hR⟩ := argOk_of hc.1 h1 (hv 0 t v rfl rfl)
    obtain ⟨xs, hxs, hRs⟩ := argsOk_of hc.2 h2 fun j t v hj hj' => hv (j + 1) t v (by simpa using hj) (by simpa using hj')
    exact ⟨x :: xs, ⟨x, xs, rfl, hx, hxs⟩, ⟨v, vs, rfl, hR, hRs⟩⟩
  | [], [], _ :: _, ds, ps, _, h, _ => by cases ds <;> simp [DataW.TrodAll] at h
  | [], _ :: _, vs, ds, ps, hc, h, _ => by simp [Sh.chks] at hc
  | _ :: _, [], vs, ds, ps, hc, h, _ => by simp [Sh.chks] at hc
  | _ :: _, _ :: _, [], ds, ps, hc, h, _ => by cases ds <;> simp [DataW.TrodAll] at h
theorem trodAll_len : ∀ {ts : List TypeId} {vs : List Value} {ds : List (DataW H)} {ps : List MemPlace}, DataW.TrodAll enc P w 0 (fun _ => true) true ts vs ds ps → ds.length = ts.length
  | [], [], [], ps, h => rfl
  | t :: ts, v :: vs, d :: ds, ps, h => by obtain ⟨p, q, h1, h2, _⟩ := h; simp [trodAll_len h2]
  | [], [], _ :: _, ps, h => by simp [DataW.TrodAll] at h
  | [], _ :: _, ds, ps, h => by cases ds <;> simp [DataW.TrodAll] at h
  | _ :: _, [], ds, ps, h => by cases ds <;> simp [DataW.TrodAll] at h
  | _ :: _, _ :: _, [], ps, h => by simp [DataW.TrodAll] at h
def readsOk (P : Program) (ts : List TypeId) : Bool := ts.all fun t => P.readableRec t && decide (t < P.types.size)
theorem trodAll_stays (hl : laidOutB P = true) {W W' : World} {sp : Nat → Bool} (hb : Below W.heap.size W W') : ∀ {ts : List TypeId} {vs : List Value} {ds : List (DataW H)} {ps : List MemPlace}, readsOk P ts = true →
    DataW.TrodAll enc P W 0 (fun _ => true) true ts vs ds ps → (∀ x ∈ ps, x.block < W.heap.size) → (∀ x ∈ ps, sp x.block = true) → DataW.TrodAll enc P W' 0 sp true ts vs ds ps
  | [], [], [], ps, _, h, _, _ => h
  | t :: ts, v :: vs, d :: ds, ps, hr, h, hlt, hs => by
    simp only [readsOk, List.all_cons, Bool.and_eq_true, decide_eq_true_eq] at hr
    obtain ⟨p, q, h1, h2, rfl⟩ := h
    exact ⟨p, q, WideElems.Trod_stays hl hr.1.1 hr.1.2 h1 (fun x hx => hb.same (hlt x (by simp [hx]))) (fun x hx => hs x (by simp [hx])), trodAll_stays hl hb (by simpa [readsOk] using hr.2) h2 (fun x hx => hlt x (by simp [hx])) (fun x hx => hs x (by simp [hx])), rfl⟩
  | [], [], _ :: _, ps, _, h, _, _ => by simp [DataW.TrodAll] at h
  | [], _ :: _, ds, ps, _, h, _, _ => by cases ds <;> simp [DataW.TrodAll] at h
  | _ :: _, [], ds, ps, _, h, _, _ => by cases ds <;> simp [DataW.TrodAll] at h
  | _ :: _, _ :: _, [], ps, _, h, _, _ => by simp [DataW.TrodAll] at h

theorem post_below {f : Func} {s : ChangeSpec} {W W' : World} {args : Array Value} {v : Value} {ds gs : List (DataW H)} {before pa pv : List MemPlace}
    (hW : DataW.Whole enc P f.params.toList s.vars false W args.toList ds gs before)
    (hres : ∀ (b : Nat) (sp : Nat → Bool) (hd : Bool), DataW.TrodAll enc P W' b sp hd f.resultTypes.toList (v.resultList f.resultTypes.size) (s.fn H (ds ++ gs)).results [])
    (hargs : ∀ sp : Nat → Bool, (∀ p ∈ before, sp p.block = true) → DataW.TrodAll enc P W' 0 sp true f.params.toList args.toList (s.fn H (ds ++ gs)).args pa)
    (hvars : ∀ sp : Nat → Bool, (∀ p ∈ before, sp p.block = true) → DataW.TrodVars enc P W' sp s.vars (s.fn H (ds ++ gs)).vars pv)
    (hps : before = pa ++ pv) (hk : W.keptBut W' (· ∈ before)) (hfz : ∀ a : Addr, a.block < W.heap.size → W'.frozen? a = W.frozen? a)
    (hok : ∀ (j : Nat) (t : TypeId) (r : Value), f.resultTypes[j]? = some t → (v.resultList f.resultTypes.size)[j]? = some r → Value.okWide P W' .any 0 t r) :
    s.post enc P f false true false false W args v W' := by
  have hold : ∀ p ∈ before, (fun b => decide (b < W.heap.size)) p.block = true := fun p hp => by simpa using hW.lt p hp
  refine ⟨ds, gs, before, [], pa, pv, hW, hres _ _ _, hargs _ hold, hvars _ hold, World.keptBut_mono (fun p hp => ⟨hp, ?_⟩) hk, fun h => by cases h⟩
  rw [hps, List.mem_append] at hp
  exact Or.inr hp

theorem law_contract {G : Glob} {f : FuncId} {fn : Func} {s : ChangeSpec} {tb : TypeId} (ts : List TypeId) (ss : List Sh) (hts : fn.params.toList = ts) (hrt : fn.resultTypes = #[tb]) (htb : P.underlying tb = some .bool) (hvars : s.vars = [])
    (hl : laidOutB P = true) (hchk : Sh.chks P ss ts = true) (hread : readsOk P ts = true) (hspec : ∀ ds : List (DataW H), ds.length = ts.length → s.fn H ds = { results := [.lit (.bool true)], args := ds })
    (hsim : ∀ xs, ArgsOk ss xs → Sim P G true f xs (.bool true)) {W : World} {base : Nat} {args : Array Value} {ds gs : List (DataW H)} {before : List MemPlace}
    (hG : ∀ g, DRL (allImm W) W g 0 (G g))
    (hval : ∀ (j : Nat) (t : TypeId) (v : Value), fn.params[j]? = some t → args[j]? = some v → Value.okWide P W .any base t v)
    (hW : DataW.Whole enc P fn.params.toList s.vars false W args.toList ds gs before) :
    Calls P f args W fun e W' => ∃ v, e = .returned v ∧ s.post enc P fn false true false false W args v W' := by
  have hW' := hW
  obtain ⟨p, q, hA, hV, rfl, hfz, hnd⟩ := hW
  rw [hvars] at hV
  obtain ⟨rfl, rfl⟩ : gs = [] ∧ q = [] := by
    cases gs with
    | nil => exact ⟨rfl, hV⟩
    | cons _ _ => simp [DataW.TrodVars] at hV
  rw [hts] at hA
  have hlen := trodAll_len hA
  obtain ⟨xs, hxs, hR⟩ := argsOk_of (n := base) hchk hA (fun j t v hj hj' => hval j t v (by rw [← hts] at hj; simpa using hj) (by simpa using hj'))
  have hcall := (hsim xs hxs).run (allImm W) W args.toList (fun k o h => h) hG hR
  rw [show args.toList.toArray = args by simp] at hcall
  refine hcall.mono ?_
  rintro e W' ⟨v, rfl, hbel, S', _, hv⟩
  simp only [DR] at hv
  subst hv
  refine ⟨_, rfl, ?_⟩
  have hsp := hspec ds hlen
  refine post_below (pa := p) (pv := []) hW' (fun b sp hd => ?_) (fun sp hsp2 => ?_) (fun sp _ => ?_) (by simp) (hbel.frame _) (fun a ha => hbel.frozen ha) (ok_one hrt rfl (by simp [Value.okWide, htb, Cell.okWide, Cell.ok]))
  · rw [List.append_nil, hsp, hrt]
    exact ⟨[], [], ⟨1, by simp [DataW.trod, htb, Value.cells]⟩, rfl, rfl⟩
  · rw [List.append_nil, hsp, hts]
    exact trodAll_stays hl hbel hread hA (fun x hx => hW'.lt x (by simp [hx])) (fun x hx => hsp2 x (by simp [hx]))
  · rw [List.append_nil, hsp, hvars]
    rfl
end
/- SHAPES -/
abbrev shU32s : Sh := .slice (.int .u32)
abbrev shInt : Sh := .struct [.bool, shU32s]
abbrev shDy : Sh := .struct [shInt, .int .i64]
abbrev shCx : Sh := .struct [shDy, shDy]
abbrev shCxs : Sh := .slice shCx
theorem u32_range (n : Int) (h1 : IntKind.u32.min ≤ n) (h2 : n ≤ IntKind.u32.max) : 0 ≤ n ∧ n ≤ 4294967295 := by
  have e1 : IntKind.u32.min = 0 := by decide
  have e2 : IntKind.u32.max = 4294967295 := by decide
  omega
theorem i64_range {n : Int} (h1 : IntKind.i64.min ≤ n) (h2 : n ≤ IntKind.i64.max) : -9223372036854775808 ≤ n ∧ n ≤ 9223372036854775807 := by
  have e1 : IntKind.i64.min = -9223372036854775808 := by decide
  have e2 : IntKind.i64.max = 9223372036854775807 := by decide
  omega
theorem maxLen_eq : maxLen = 9223372036854775807 := by decide
theorem has_limbs : ∀ {ls : List (List D)}, (∀ l ∈ ls, (Sh.int .u32).has l) → ∃ l : List UInt32, ls.flatten = limbs l ∧ l.length = ls.length
  | [], _ => ⟨[], rfl, rfl⟩
  | x :: ls, h => by
    obtain ⟨l, h1, h2⟩ := has_limbs (ls := ls) fun y hy => h y (by simp [hy])
    obtain ⟨n, rfl, h3, h4⟩ := h x (by simp)
    have h5 := u32_range n h3 h4
    refine ⟨UInt32.ofNat n.toNat :: l, ?_, by simp [h2]⟩
    rw [List.flatten_cons, h1]
    simp only [limbs, List.map_cons, List.singleton_append, UInt32.toNat_ofNat']
    congr 2; omega
theorem has_u32s {ds : List D} (h : shU32s.has ds) : ∃ l : List UInt32, ds = [sl l] ∧ l.length ≤ maxLen := by
  obtain ⟨n, ls, rfl, h1, h2, h3⟩ := h
  obtain ⟨l, h4, h5⟩ := has_limbs h3
  refine ⟨l, ?_, by omega⟩
  rw [h4]; unfold sl; rw [h5, h1]
theorem has_int {ds : List D} (h : shInt.has ds) : ∃ b l, ds = [.bool b, sl l] ∧ l.length ≤ maxLen := by
  simp only [Sh.has, Sh.hasAll] at h
  obtain ⟨_, _, rfl, ⟨b, rfl⟩, _, _, rfl, h2, rfl⟩ := h
  obtain ⟨l, rfl, hl⟩ := has_u32s h2
  exact ⟨b, l, rfl, hl⟩
theorem has_dy {ds : List D} (h : shDy.has ds) : ∃ b l e, ds = [.bool b, sl l, .int .i64 e] ∧ l.length ≤ maxLen ∧ -9223372036854775808 ≤ e ∧ e ≤ 9223372036854775807 := by
  simp only [Sh.has, Sh.hasAll] at h
  obtain ⟨_, _, rfl, h1, _, _, rfl, ⟨e, rfl, h3, h4⟩, rfl⟩ := h
  obtain ⟨b, l, rfl, hl⟩ := has_int (by simp only [Sh.has, Sh.hasAll]; exact h1)
  exact ⟨b, l, e, rfl, hl, i64_range h3 h4⟩
theorem has_cx {ds : List D} (h : shCx.has ds) : ∃ r : RC, ds = r.cells := by
  simp only [Sh.has, Sh.hasAll] at h
  obtain ⟨_, _, rfl, h1, _, _, rfl, h2, rfl⟩ := h
  obtain ⟨b, l, e, rfl, _⟩ := has_dy (by simp only [Sh.has, Sh.hasAll]; exact h1)
  obtain ⟨c, k, f, rfl, _⟩ := has_dy (by simp only [Sh.has, Sh.hasAll]; exact h2)
  exact ⟨⟨b, l, e, c, k, f⟩, rfl⟩
theorem has_cxs_aux : ∀ {ls : List (List D)}, (∀ l ∈ ls, shCx.has l) → ∃ xs : List RC, ls.flatten = xs.flatMap RC.cells ∧ xs.length = ls.length
  | [], _ => ⟨[], rfl, rfl⟩
  | x :: ls, h => by
    obtain ⟨xs, h1, h2⟩ := has_cxs_aux (ls := ls) fun y hy => h y (by simp [hy])
    obtain ⟨r, rfl⟩ := has_cx (h x (by simp))
    exact ⟨r :: xs, by simp [h1], by simp [h2]⟩
theorem has_cxs {ds : List D} (h : shCxs.has ds) : ∃ xs : List RC, ds = [csl xs] ∧ xs.length ≤ maxLen := by
  obtain ⟨n, ls, rfl, h1, h2, h3⟩ := h
  obtain ⟨xs, h4, h5⟩ := has_cxs_aux h3
  refine ⟨xs, ?_, by omega⟩
  rw [h4]; unfold csl; rw [h5, h1]
theorem arg_cxs {x : D} (h : ArgOk shCxs x) : ∃ xs : List RC, x = csl xs ∧ xs.length ≤ 9223372036854775807 := by
  obtain ⟨ds, h1, rfl⟩ := h
  obtain ⟨xs, rfl, h2⟩ := has_cxs h1
  rw [maxLen_eq] at h2
  exact ⟨xs, rfl, h2⟩
theorem arg_cx {x : D} (h : ArgOk shCx x) : ∃ r : RC, x = .agg r.cells := by
  obtain ⟨ds, h1, rfl⟩ := h
  obtain ⟨r, rfl⟩ := has_cx h1
  exact ⟨r, rfl⟩
theorem arg_dy {x : D} (h : ArgOk shDy x) : ∃ b l e, x = .agg [.bool b, sl l, .int .i64 e] ∧ l.length ≤ 9223372036854775807 ∧ -9223372036854775808 ≤ e ∧ e ≤ 9223372036854775807 := by
  obtain ⟨ds, h1, rfl⟩ := h
  obtain ⟨b, l, e, rfl, h2, h3⟩ := has_dy h1
  rw [maxLen_eq] at h2
  exact ⟨b, l, e, rfl, h2, h3⟩
theorem arg_int {x : D} (h : ArgOk shInt x) : ∃ b l, x = .agg [.bool b, sl l] ∧ l.length ≤ 9223372036854775807 := by
  obtain ⟨ds, h1, rfl⟩ := h
  obtain ⟨b, l, rfl, h2⟩ := has_int h1
  rw [maxLen_eq] at h2
  exact ⟨b, l, rfl, h2⟩
theorem arg_k {k : IntKind} {x : D} (h : ArgOk (.int k) x) : ∃ n, x = .int k n ∧ k.min ≤ n ∧ n ≤ k.max := by
  obtain ⟨ds, ⟨n, rfl, h1⟩, rfl⟩ := h
  exact ⟨n, rfl, h1⟩
end Go.Ev
