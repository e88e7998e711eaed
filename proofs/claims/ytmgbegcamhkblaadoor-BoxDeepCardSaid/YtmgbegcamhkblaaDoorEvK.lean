/- Code; functions. -/
import Derived.Test.YtmgbegcamhkblaaDoorEvQ
set_option linter.unusedSimpArgs false
set_option linter.unusedVariables false
namespace Go.Ev
open Go

/-- What is meant by a walk. -/
def Wp' (P : Program) (G : Glob) (c : Code) (Q : Exit → St → Prop) (σ : St) : Prop :=
  ∀ w0 M S0 a w β S, Rel G w0 M S0 σ a w β S → c.wp P (fun e a' w' => Post G w0 M S0 σ.n (Q e) a' w') a w

/-- What a loop's head keeps. -/
def St.at (n : Nat) (L : List Nat) (xs : List A) (h : List (Nat × Bool × List A)) : St := { n, env := L.zip xs, heap := h }
def St.gets (σ : St) (L : List Nat) : List A := L.map σ.get

/-- nil as an empty slice. -/
def A.dnA : A → A
  | .d x => .d x.dn
  | x => x
theorem A.refsIn_dnA (ks : List Nat) (x : A) : x.dnA.refsIn ks = x.refsIn ks := by cases x <;> rfl
theorem AR.dnA {β : Own} {S : Imm} {w : World} : ∀ {x : A} {v : Value}, AR β S w x v → AR β S w x.dnA v
  | .d x, v, h => by simp only [AR, A.dnA] at h ⊢; exact DR_dn h
  | .ptr _ _, v, h => h
  | .elem _, v, h => h
  | .own _ _ _ _, v, h => h
  | .agg _, v, h => h
/-- From the state all but some slots and some blocks are forgotten. -/
def St.cut (σ : St) (L : List Nat) (ks : List Nat) (xs : List A) (h : List (Nat × Bool × List A)) : Prop :=
  (σ.gets L = xs ∨ (σ.gets L).map A.dnA = xs) ∧ σ.heap.filter (fun x => ks.contains x.1) = h ∧ A.refsIns ks xs = true ∧ h.all (fun x => A.refsIns ks x.2.2) = true

/-- Slots that hold nil are given keys of their own. -/
def St.adopt (σ : St) : List (Nat × Nat × Nat) → (St → Prop) → Prop
  | [], K => K σ
  | (t, b, sz) :: ad, K => σ.get t = .d .nil ∧ σ.hp b = none ∧ (t < σ.n ∧ b < 1000000) ∧ St.adopt ((σ.new b []).put (some t) (.own b 0 0 sz)) ad K

section
variable {P : Program} {G : Glob} {T : Tab} {w0 : World} {M : Own} {S0 : Imm} {σ : St} {a : Act} {w w' : World} {β : Own} {S : Imm}

def Own.only (β : Own) (ks : List Nat) : Own := fun b => if ks.contains b then β b else none

mutual
theorem AR_only {ks : List Nat} : ∀ {x : A} {v : Value}, x.refsIn ks = true → AR β S w x v → AR (β.only ks) S w x v
  | .d x, v, _, h => by simp only [AR] at h ⊢; exact h
  | .elem x, v, _, h => by simp only [AR] at h ⊢; exact h
  | .ptr c o, v, hr, h => by
    simp only [A.refsIn] at hr
    simp only [AR, Own.only, hr, if_true] at h ⊢; exact h
  | .own c o n sz, v, hr, h => by
    simp only [A.refsIn] at hr
    simp only [AR, Own.only, hr, if_true] at h ⊢; exact h
  | .agg l, v, hr, h => by
    simp only [A.refsIn] at hr
    simp only [AR] at h ⊢
    obtain ⟨vs, rfl, h⟩ := h
    exact ⟨vs, rfl, ARs_only hr h⟩
theorem ARs_only {ks : List Nat} : ∀ {l : List A} {vs : List Value}, A.refsIns ks l = true → ARs β S w l vs → ARs (β.only ks) S w l vs
  | [], vs, _, h => by simpa [ARs] using h
  | x :: l, vs, hr, h => by
    simp only [A.refsIns, Bool.and_eq_true] at hr
    simp only [ARs] at h ⊢
    obtain ⟨u, us, rfl, h1, h2⟩ := h
    exact ⟨u, us, rfl, AR_only hr.1 h1, ARs_only hr.2 h2⟩
end
theorem lk_filter (ks : List Nat) : ∀ (l : List (Nat × Bool × List A)) (t : Nat), lk (l.filter fun x => ks.contains x.1) t = if ks.contains t then lk l t else none
  | [], t => by simp [lk]
  | (k, x) :: l, t => by
    rw [List.filter_cons]
    split
    · rename_i h
      simp only [lk]
      by_cases e : k = t
      · subst e; simp only at h; rw [if_pos rfl, if_pos h, if_pos rfl]
      · rw [if_neg e, if_neg e]; exact lk_filter ks l t
    · rename_i h
      rw [lk_filter ks l t]
      simp only [lk]
      by_cases e : k = t
      · subst e; simp only at h; rw [if_neg h, if_neg h]
      · rw [if_neg e]

theorem lk_zip : ∀ {L : List Nat} {xs : List A} {t : Nat} {x : A}, lk (L.zip xs) t = some x → ∃ j : Nat, L[j]? = some t ∧ xs[j]? = some x
  | [], xs, t, x, h => by simp [lk] at h
  | l :: L, [], t, x, h => by simp [lk] at h
  | l :: L, y :: xs, t, x, h => by
    simp only [List.zip_cons_cons, lk] at h
    split at h
    · rename_i e
      subst e; cases h
      exact ⟨0, rfl, rfl⟩
    · obtain ⟨j, h1, h2⟩ := lk_zip h
      exact ⟨j + 1, by simpa using h1, by simpa using h2⟩

theorem Rel.cut (h : Rel G w0 M S0 σ a w β S) {L ks : List Nat} {xs : List A} {hh : List (Nat × Bool × List A)} (hc : σ.cut L ks xs hh) : Rel G w0 M S0 (St.at σ.n L xs hh) a w (β.only ks) S := by
  obtain ⟨hgx, rfl, hx, hr⟩ := hc
  have hon : ∀ b (k : Option Nat), β.only ks b = some k → ks.contains b = true ∧ β b = some k := by
    intro b k hb
    unfold Own.only at hb
    split at hb
    · exact ⟨by assumption, hb⟩
    · cases hb
  have hlk : ∀ b x, lk (σ.heap.filter fun x => ks.contains x.1) b = some x → ks.contains b = true ∧ lk σ.heap b = some x := by
    intro b x hb
    rw [lk_filter] at hb
    split at hb
    · exact ⟨by assumption, hb⟩
    · cases hb
  have hmem : ∀ (l : List (Nat × Bool × List A)) (b : Nat) (x : Bool × List A), lk l b = some x → (b, x) ∈ l := by
    intro l
    induction l with
    | nil => intro b x h; simp [lk] at h
    | cons y l ih =>
      intro b x h
      obtain ⟨k, y⟩ := y
      simp only [lk] at h
      split at h
      · rename_i e; subst e; cases h; simp
      · exact List.mem_cons_of_mem _ (ih b x h)
  have hrefs : ∀ b x, lk (σ.heap.filter fun x => ks.contains x.1) b = some x → A.refsIns ks x.2 = true := by
    intro b x hb
    have := hmem _ _ _ hb
    exact List.all_eq_true.1 hr _ this
  refine { h with env := ?_, keys := ?_, rd := ?_, live := ?_, froz := ?_, fd := ?_, nilb := ?_, inj := ?_, stay := ?_, src := fun b k hb => h.src b k (hon b _ hb).2 }
  · intro t x hx'
    obtain ⟨j, h1, h2⟩ := lk_zip hx'
    rcases hgx with rfl | rfl
    · simp only [St.gets, List.getElem?_map, h1, Option.map_some, Option.some.injEq] at h2
      subst h2
      have hrx := refsIns_get hx (j := j) (x := σ.get t) (by simp [St.gets, h1])
      exact AR_only hrx (h.get t)
    · simp only [St.gets, List.getElem?_map, h1, Option.map_some, Option.some.injEq] at h2
      subst h2
      have hrx := refsIns_get hx (j := j) (x := (σ.get t).dnA) (by simp [St.gets, h1])
      exact AR_only hrx (h.get t).dnA
  · intro b hb
    obtain ⟨k, hk⟩ := Option.ne_none_iff_exists'.1 hb
    obtain ⟨h1, h2⟩ := hon b k hk
    show lk (σ.heap.filter fun x => ks.contains x.1) b ≠ none
    rw [lk_filter, if_pos h1]
    exact h.keys b (by rw [h2]; simp)
  · intro b k fr l hb hl
    obtain ⟨h1, h2⟩ := hon b _ hb
    obtain ⟨_, h3⟩ := hlk b _ hl
    obtain ⟨C, Tc, hC, hlen, hcell⟩ := h.rd b k fr l h2 h3
    refine ⟨C, Tc, hC, hlen, fun j x hj => ?_⟩
    obtain ⟨u, hu, hR⟩ := hcell j x hj
    exact ⟨u, hu, AR_only (refsIns_get (hrefs b _ hl) hj) hR⟩
  · intro b k l hb hl
    exact h.live b k l (hon b _ hb).2 (hlk b _ hl).2
  · intro b k l hb hl
    exact h.froz b k l (hon b _ hb).2 (hlk b _ hl).2
  · intro b l hl
    exact h.fd b l (hlk b _ hl).2
  · intro b fr l hb hl
    obtain ⟨h1, h2⟩ := hlk b _ hl
    have : β b = some none := by
      unfold Own.only at hb
      rwa [if_pos h1] at hb
    exact h.nilb b fr l this h2
  · intro b b' k hb hb'
    exact h.inj b b' k (hon b _ hb).2 (hon b' _ hb').2
  · intro b h1 h2 hb
    obtain ⟨x, hx⟩ := Option.ne_none_iff_exists'.1 hb
    obtain ⟨h3, h4⟩ := hlk b x hx
    show (if ks.contains b then β b else none) = M b
    rw [if_pos h3]
    exact h.stay b h1 h2 (by rw [h4]; simp)

theorem Rel.adopt : ∀ {ad : List (Nat × Nat × Nat)} {σ : St} {β : Own} {K : St → Prop}, Rel G w0 M S0 σ a w β S → σ.adopt ad K → ∃ σ' β', K σ' ∧ Rel G w0 M S0 σ' a w β' S ∧ σ'.n = σ.n
  | [], σ, β, K, h, hk => ⟨σ, β, hk, h, rfl⟩
  | (t, b, sz) :: ad, σ, β, K, h, hk => by
    obtain ⟨h1, h2, h3, hk⟩ := hk
    have hv := h.get t
    rw [h1] at hv
    simp only [AR, DR] at hv
    have hg := h.ghost h2 h3.2
    have hp : Rel G w0 M S0 ((σ.new b []).put (some t) (.own b 0 0 sz)) a w (β.gh b) S := by
      refine { hg with size := ?_, env := ?_ }
      · exact hg.size
      · intro t' x hx
        simp only [St.put, lk] at hx
        split at hx
        · rename_i e
          subst e
          cases hx
          simp only [AR]
          exact .inr ⟨trivial, by simp [Own.gh], none, hv⟩
        · exact hg.env t' x hx
    obtain ⟨σ', β', h4, h5, h6⟩ := Rel.adopt hp hk
    exact ⟨σ', β', h4, h5, h6⟩
end

/-- Slots lie in the frame. -/
def regOk (T : Tab) (n : Nat) (ops : Array Oper) (draw : Bool) : Bool := (ops.all fun o => o.dst.all (· < n)) && (!draw || okDraw T ops)

/-- A loop's round is done: on with the next. -/
inductive LoopEnd (I : Nat → List A → List (Nat × Bool × List A) → Prop) (m : Nat) (L ks : List Nat) (σ' : St) : Prop where
  | mk (m' : Nat) (xs' : List A) (h' : List (Nat × Bool × List A)) (cut : σ'.cut L ks xs' h') (lt : m' < m) (inv : I m' xs' h')
/-- A loop begins. -/
inductive LoopAt (I : Nat → List A → List (Nat × Bool × List A) → Prop) (L ks : List Nat) (σ : St) : Prop where
  | mk (m : Nat) (xs : List A) (h : List (Nat × Bool × List A)) (cut : σ.cut L ks xs h) (inv : I m xs h)

/- THE SAME, WITH STATES WRITTEN OUT. -/
def frzL (h : List (Nat × Bool × List A)) : List Nat → List (Nat × Bool × List A)
  | [] => h
  | bs => h.map fun x => (x.1, x.2.1 || bs.contains x.1, x.2.2)
def wrEv' (T : Tab) (G : Glob) (n : Nat) (env : List (Nat × A)) (heap : List (Nat × Bool × List A)) (d : Option Nat) (op : Op) (K : A → St → Prop) : Prop :=
  match op with
  | .store t a x => match St.ev G ⟨n, env, heap⟩ a with
    | .ptr b o => match lk heap b, T t with
      | some (false, l), some y => Cd ((St.ev G ⟨n, env, heap⟩ x).full = true) (Cd ((St.ev G ⟨n, env, heap⟩ x).cells.length = y.size) (Cd ((St.ev G ⟨n, env, heap⟩ x).cells.all A.one = true) (Cd (o + y.size ≤ l.length) (EqE (setAt l o (St.ev G ⟨n, env, heap⟩ x).cells) fun row => K (.d .any) ⟨n, env, hset heap b row⟩))))
      | _, _ => False
    | _ => False
  | .call c => match c.callee, c.argTypes.toList, c.args.toList, d with
    | .builtin .append, [t, t2], [s, x], some d => tySlice T t fun _ ye => Cd (((T t2).any Ty.isSl && ye.rowOk) = true) <|
      contentEv (lk heap) ye.size (St.ev G ⟨n, env, heap⟩ x) fun m cs => Cd (∀ c ∈ cs, (A.d c).one = true) <| match St.ev G ⟨n, env, heap⟩ s with
        | .d .nil => Cd (m * ye.bytes ≤ 70368744177664) (Cd ((lk heap d).isNone = true) (EqE (cs.map A.d) fun row => K (.own d 0 m ye.size) ⟨n, env, (d, false, row) :: heap⟩))
        | .own b o k sz => match lk heap b with
          | some (false, l) => Cd (okKey b o = 0 ∧ sz = ye.size) (Cd (l.length = k * sz) (Cd ((k + m) * ye.bytes ≤ 70368744177664) (DsE l fun _ => EqE (l ++ cs.map A.d) fun row => K (.own b 0 (k + m) sz) ⟨n, env.map fun x => (x.1, x.2.kill b), hset (heap.map fun x => (x.1, x.2.1, A.kills b x.2.2)) b row⟩)))
          | _ => False
        | _ => False
    | _, _, _, _ => False
  | _ => False
def callEv' (P : Program) (G : Glob) (n : Nat) (env : List (Nat × A)) (heap : List (Nat × Bool × List A)) (op : Op) (K : A → St → Prop) : Prop :=
  match op with
  | .call c => match c.callee with
    | .value (.func f) => argsEv (lk heap) (c.args.toList.map (St.ev G ⟨n, env, heap⟩)) fun xs bs => CallE P G f xs fun fresh r => K (.d r) ⟨n, env, if fresh then heap else frzL heap bs⟩
    | _ => False
  | _ => False
def evOp' (P : Program) (G : Glob) (T : Tab) (σ : St) (o : Oper) (K : St → Prop) : Prop :=
  match σ with
  | ⟨n, env, heap⟩ => match kindOf o.op with
    | 0 => valEv T (St.ev G ⟨n, env, heap⟩) (lk heap) o.op fun r => St.putK ⟨n, env, heap⟩ o.dst r K
    | 1 => match o.dst with
      | some d => Cd ((lk heap d).isNone = true) (newEv T (St.ev G ⟨n, env, heap⟩) d o.op fun r l => St.putK ⟨n, env, (d, false, l) :: heap⟩ (some d) r K)
      | none => False
    | 2 => wrEv' T G n env heap o.dst o.op fun r σ' => σ'.putK o.dst r K
    | _ => callEv' P G n env heap o.op fun r σ' => σ'.putK o.dst r K
def evOps' (P : Program) (G : Glob) (T : Tab) (ops : Array Oper) : List Oper → St → (St → Prop) → Prop
  | [], σ, Q => Q σ
  | o :: rest, σ, Q => evGuard ops σ o (fun σ => evOp' P G T σ o fun σ' => evOps' P G T ops rest σ' Q) (fun σ => σ.putK o.dst (.d (.tup [])) fun σ => evOps' P G T ops rest σ Q)
theorem frzL_eq (n : Nat) (env : List (Nat × A)) (heap : List (Nat × Bool × List A)) (bs : List Nat) : St.freeze ⟨n, env, heap⟩ bs = ⟨n, env, frzL heap bs⟩ := by cases bs <;> rfl
theorem callEv'_eq (P : Program) (G : Glob) (n : Nat) (env : List (Nat × A)) (heap : List (Nat × Bool × List A)) (op : Op) (K : A → St → Prop) : callEv' P G n env heap op K = callEv P G ⟨n, env, heap⟩ op K := by
  have e : ∀ (fresh : Bool) (bs : List Nat), (⟨n, env, if fresh then heap else frzL heap bs⟩ : St) = if fresh then ⟨n, env, heap⟩ else St.freeze ⟨n, env, heap⟩ bs := by
    intro fresh bs; cases fresh
    · simp [frzL_eq]
    · rfl
  unfold callEv' callEv
  simp only [e]
  rfl
theorem wrEv'_eq (T : Tab) (G : Glob) (n : Nat) (env : List (Nat × A)) (heap : List (Nat × Bool × List A)) (d : Option Nat) (op : Op) (K : A → St → Prop) : wrEv' T G n env heap d op K = wrEv T G ⟨n, env, heap⟩ d op K := rfl
theorem evOp'_eq (P : Program) (G : Glob) (T : Tab) (σ : St) (o : Oper) (K : St → Prop) : evOp' P G T σ o K = evOp P G T σ o K := by
  obtain ⟨n, env, heap⟩ := σ
  unfold evOp' evOp
  simp only [callEv'_eq, wrEv'_eq]
  rfl
theorem evOps'_eq (P : Program) (G : Glob) (T : Tab) (ops : Array Oper) : ∀ (l : List Oper) (σ : St) (Q : St → Prop), evOps' P G T ops l σ Q = evOps P G T ops l σ Q
  | [], σ, Q => rfl
  | o :: rest, σ, Q => by simp only [evOps', evOps, evOp'_eq, evOps'_eq P G T ops rest]

/-- A call: of data, or with memory of the call's own. -/
inductive CallX (P : Program) (G : Glob) (n : Nat) (env : List (Nat × A)) (heap : List (Nat × Bool × List A)) (f : FuncId) (xs : List A) (K : A → St → Prop) : Prop where
  | data (h : argsEv (lk heap) xs fun ds bs => CallE P G f ds fun fresh r => K (.d r) ⟨n, env, if fresh then heap else frzL heap bs⟩)
  | own (h : CallA P G n env heap f xs K)
def callEvX (P : Program) (G : Glob) (n : Nat) (env : List (Nat × A)) (heap : List (Nat × Bool × List A)) (op : Op) (K : A → St → Prop) : Prop :=
  match op with
  | .call c => match c.callee with
    | .value (.func f) => CallX P G n env heap f (c.args.toList.map (St.ev G ⟨n, env, heap⟩)) K
    | _ => False
  | _ => False
def evOpX (P : Program) (G : Glob) (T : Tab) (σ : St) (o : Oper) (K : St → Prop) : Prop :=
  match σ with
  | ⟨n, env, heap⟩ => match kindOf o.op with
    | 0 => valEv T (St.ev G ⟨n, env, heap⟩) (lk heap) o.op fun r => St.putK ⟨n, env, heap⟩ o.dst r K
    | 1 => match o.dst with
      | some d => Cd ((lk heap d).isNone = true) (newEv T (St.ev G ⟨n, env, heap⟩) d o.op fun r l => St.putK ⟨n, env, (d, false, l) :: heap⟩ (some d) r K)
      | none => False
    | 2 => wrEv' T G n env heap o.dst o.op fun r σ' => σ'.putK o.dst r K
    | _ => callEvX P G n env heap o.op fun r σ' => σ'.putK o.dst r K
def evOpsX (P : Program) (G : Glob) (T : Tab) (ops : Array Oper) : List Oper → St → (St → Prop) → Prop
  | [], σ, Q => Q σ
  | o :: rest, σ, Q => evGuard ops σ o (fun σ => evOpX P G T σ o fun σ' => evOpsX P G T ops rest σ' Q) (fun σ => σ.putK o.dst (.d (.tup [])) fun σ => evOpsX P G T ops rest σ Q)
theorem evOpX_low {P : Program} {G : Glob} {T : Tab} {n : Nat} {env : List (Nat × A)} {heap : List (Nat × Bool × List A)} {o : Oper} {K : St → Prop} (hc : kindOf o.op ≤ 2) (hk : evOpX P G T ⟨n, env, heap⟩ o K) : evOp' P G T ⟨n, env, heap⟩ o K := by
  unfold evOpX at hk
  unfold evOp'
  simp only at hk ⊢
  have h3 : kindOf o.op = 0 ∨ kindOf o.op = 1 ∨ kindOf o.op = 2 := by omega
  rcases h3 with e | e | e <;> rw [e] at hk ⊢ <;> exact hk
theorem evOpX_call {P : Program} {G : Glob} {T : Tab} {n : Nat} {env : List (Nat × A)} {heap : List (Nat × Bool × List A)} {o : Oper} {K : St → Prop} (hc : ¬ kindOf o.op ≤ 2) (hk : evOpX P G T ⟨n, env, heap⟩ o K) : callEvX P G n env heap o.op (fun r σ' => σ'.putK o.dst r K) := by
  unfold evOpX at hk
  simp only at hk
  have h3 : kindOf o.op = 3 := by have := kindOf_le o.op; omega
  rw [h3] at hk
  exact hk
theorem evOpX_sound {P : Program} {G : Glob} {T : Tab} {w0 : World} {M : Own} {S0 : Imm} {σ : St} {a : Act} {w : World} {β : Own} {S : Imm} (hT : TabOk P T) (h : Rel G w0 M S0 σ a w β S) {o : Oper} (hd : ∀ d, o.dst = some d → d < σ.n) {K : St → Prop} (hk : evOpX P G T σ o K) (Q : Exit → Act → World → Prop) :
    o.wp P a w (Post G w0 M S0 σ.n K) Q := by
  obtain ⟨n, env, heap⟩ := σ
  by_cases hc : kindOf o.op ≤ 2
  · refine evOp_sound hT h hd ?_ Q
    rw [← evOp'_eq]
    exact evOpX_low hc hk
  · replace hk := evOpX_call hc hk
    clear hc
    obtain ⟨dst, op, type, pos, after, guard⟩ := o
    simp only at hk hd
    unfold callEvX at hk
    split at hk
    · rename_i c
      obtain ⟨callee, args, at_⟩ := c
      simp only at hk
      split at hk
      · rename_i f
        cases hk with
        | data hk =>
          refine callEv_sound h (o := ⟨dst, .call ⟨.value (.func f), args, at_⟩, type, pos, after, guard⟩) (K := fun r σ' => σ'.putK dst r K) ?_ Q _ ?_
          · rw [← callEv'_eq]; exact hk
          · intro r σ' v w' β' S' hK hrel hR hn
            rw [St.putK_eq] at hK
            exact ⟨_, β', S', hK, hrel.put hR (fun d hd' => by rw [hn]; exact hd d hd'), by rw [← hn]; cases dst <;> rfl⟩
        | own hk =>
          refine callA_sound h (o := ⟨dst, .call ⟨.value (.func f), args, at_⟩, type, pos, after, guard⟩) rfl (K := fun r σ' => σ'.putK dst r K) hk Q _ ?_
          intro r σ' v w' β' S' hK hrel hR hn
          rw [St.putK_eq] at hK
          exact ⟨_, β', S', hK, hrel.put hR (fun d hd' => by rw [hn]; exact hd d hd'), by rw [← hn]; cases dst <;> rfl⟩
      · exact hk.elim
    · exact hk.elim
theorem evOpsX_sound {P : Program} {G : Glob} {T : Tab} {w0 : World} {M : Own} {S0 : Imm} (hT : TabOk P T) {ops : Array Oper} {n : Nat} (hd : ∀ o ∈ ops.toList, ∀ d, o.dst = some d → d < n) {Q : Exit → Act → World → Prop} {K : St → Prop} (hQ : ∀ a w, Post G w0 M S0 n K a w → Q .normal a w) :
    ∀ (rest : List Oper) (i : Nat) (σ : St) (a : Act) (w : World) (β : Own) (S : Imm), ops.toList.drop i = rest → σ.n = n → Rel G w0 M S0 σ a w β S → evOpsX P G T ops rest σ K → wpOps P ops Q ((List.range rest.length).map (i + ·)) a w
  | [], i, σ, a, w, β, S, _, hn, h, hk => by
    simp only [wpOps, List.length_nil, List.range_zero, List.map_nil]
    exact hQ a w ⟨σ, β, S, hk, h, hn⟩
  | o :: rest, i, σ, a, w, β, S, hdr, hn, h, hk => by
    have hi : ops[i]? = some o := by
      have : (ops.toList.drop i)[0]? = some o := by rw [hdr]; rfl
      simpa using this
    have hdr2 : ops.toList.drop (i + 1) = rest := by
      have : (ops.toList.drop i).drop 1 = rest := by rw [hdr]; rfl
      rwa [List.drop_drop] at this
    have hmem : o ∈ ops.toList := by
      have : ops.toList[i]? = some o := by simpa using hi
      exact List.mem_of_getElem? this
    have hlist : (List.range (o :: rest).length).map (i + ·) = i :: (List.range rest.length).map (i + 1 + ·) := by
      rw [List.length_cons, List.range_succ_eq_map, List.map_cons, List.map_map]
      congr 1
      apply List.map_congr_left
      intro j _
      simp only [Function.comp_def, Nat.succ_eq_add_one]; omega
    rw [hlist, wpOps_cons]
    simp only [evOpsX] at hk
    obtain ⟨σ1, h1, hn1, hcase⟩ := evGuard_sound h hk
    have hdo : ∀ d, o.dst = some d → d < σ1.n := fun d hd' => by rw [hn1, hn]; exact hd o hmem d hd'
    rcases hcase with ⟨hw, hy⟩ | ⟨hw, hno⟩
    · refine wpOp_of_wp hi hw (Oper.wp_mono ?_ (evOpX_sound hT h1 hdo hy Q))
      rintro a' w' ⟨σ2, β2, S2, hK2, h2, hn2⟩
      exact evOpsX_sound hT hd hQ rest (i + 1) σ2 a' w' β2 S2 hdr2 (by rw [hn2, hn1, hn]) h2 hK2
    · simp only [wpOp, hi, hw, Bool.false_eq_true, if_false]
      rw [St.putK_eq] at hno
      refine evOpsX_sound hT hd hQ rest (i + 1) _ _ w β S hdr2 ?_ (put_undef h1 o.dst hdo) hno
      cases o.dst <;> exact hn1.trans hn

def awp (P : Program) (G : Glob) (T : Tab) : Code → (Exit → St → Prop) → St → Prop
  | .skip, Q, σ => Q .normal σ
  | .label _, Q, σ => Q .normal σ
  | .exit i, Q, σ => Q (.exit i) σ
  | .goto l, Q, σ => Q (.goto l) σ
  | .ret, Q, σ => Q .ret σ
  | .seq a b, Q, σ => awp P G T a (fun e σ' => match e with | .normal => awp P G T b Q σ' | e => Q e σ') σ
  | .cond c a b, Q, σ => match σ.ev G c with
    | .d (.bool t) => Br t (awp P G T a Q σ) (awp P G T b Q σ)
    | _ => False
  | .block id c, Q, σ => awp P G T c (fun e σ' => match e with | .exit i => if i = id then Q .normal σ' else Q (.exit i) σ' | e => Q e σ') σ
  | .region _ ops draw, Q, σ => Cd (regOk T σ.n ops draw = true) (match draw with | true => evOps' P G T ops ops.toList σ (Q .normal) | false => evOpsX P G T ops ops.toList σ (Q .normal))
  | .loop c, Q, σ => ∃ (ad : List (Nat × Nat × Nat)) (L ks : List Nat) (I : Nat → List A → List (Nat × Bool × List A) → Prop),
      (σ.adopt ad fun σ => LoopAt I L ks σ) ∧
      ∀ m xs h, I m xs h → match σ with | ⟨n, _, _⟩ => awp P G T c (fun e σ' => match e with | .normal => LoopEnd I m L ks σ' | e => Q e σ') ⟨n, L.zip xs, h⟩
  | c, Q, σ => Wp' P G c Q σ

section
variable {P : Program} {G : Glob} {T : Tab}
theorem regOk_dst {n : Nat} {ops : Array Oper} {draw : Bool} (h : regOk T n ops draw = true) : (∀ o ∈ ops.toList, ∀ d, o.dst = some d → d < n) ∧ (draw = true → okDraw T ops = true) := by
  simp only [regOk, Bool.and_eq_true, Array.all_eq_true_iff_forall_mem] at h
  refine ⟨fun o ho d hd => ?_, fun e => by have := h.2; rw [e] at this; simpa using this⟩
  have := h.1 o (Array.mem_toList_iff.1 ho)
  rw [hd] at this
  simpa using this

theorem awp_sound (hT : TabOk P T) : ∀ (c : Code) (Q : Exit → St → Prop) (σ : St), awp P G T c Q σ → Wp' P G c Q σ
  | .skip, Q, σ, h => fun w0 M S0 a w β S hr => wp_skip ⟨σ, β, S, h, hr, rfl⟩
  | .label _, Q, σ, h => fun w0 M S0 a w β S hr => wp_label ⟨σ, β, S, h, hr, rfl⟩
  | .exit i, Q, σ, h => fun w0 M S0 a w β S hr => wp_exit ⟨σ, β, S, h, hr, rfl⟩
  | .goto l, Q, σ, h => fun w0 M S0 a w β S hr => wp_goto ⟨σ, β, S, h, hr, rfl⟩
  | .ret, Q, σ, h => fun w0 M S0 a w β S hr => wp_ret ⟨σ, β, S, h, hr, rfl⟩
  | .seq x y, Q, σ, h => fun w0 M S0 a w β S hr => by
    refine wp_seq (wp_mono (awp_sound hT x _ σ h w0 M S0 a w β S hr) ?_)
    rintro e a' w' ⟨σ', β', S', hq, hr', hn⟩
    cases e with
    | normal =>
      simp only [Exit.then]
      have := awp_sound hT y _ σ' hq w0 M S0 a' w' β' S' hr'
      rw [hn] at this
      exact this
    | _ => exact ⟨σ', β', S', hq, hr', hn⟩
  | .cond c x y, Q, σ, h => fun w0 M S0 a w β S hr => by
    simp only [awp] at h
    split at h
    · rename_i t ht
      have hv := hr.ev c
      rw [ht] at hv
      simp only [AR, DR] at hv
      exact wp_cond_split hv (fun e => awp_sound hT x Q σ (h.tt e) w0 M S0 a w β S hr) (fun e => awp_sound hT y Q σ (h.ff e) w0 M S0 a w β S hr)
    · exact h.elim
  | .block id c, Q, σ, h => fun w0 M S0 a w β S hr => by
    refine wp_block (wp_mono (awp_sound hT c _ σ h w0 M S0 a w β S hr) ?_)
    rintro e a' w' ⟨σ', β', S', hq, hr', hn⟩
    cases e with
    | exit i =>
      have hq : (if i = id then Q .normal σ' else Q (.exit i) σ') := hq
      simp only [Exit.inBlock]
      split
      · rename_i e
        rw [if_pos e] at hq
        exact ⟨σ', β', S', hq, hr', hn⟩
      · rename_i e
        rw [if_neg e] at hq
        exact ⟨σ', β', S', hq, hr', hn⟩
    | _ => exact ⟨σ', β', S', hq, hr', hn⟩
  | .region id ops draw, Q, σ, h => fun w0 M S0 a w β S hr => by
    obtain ⟨hok, h⟩ := h
    obtain ⟨hd, hdr⟩ := regOk_dst hok
    cases draw with
    | true =>
      simp only at h
      rw [evOps'_eq] at h
      exact draw_sound hT hT.mix (hdr rfl) hd (fun a w h => h) hr h
    | false => ?_
    simp only at h
    refine wp_region ?_
    have := evOpsX_sound (P := P) (G := G) (w0 := w0) (M := M) (S0 := S0) (K := Q .normal) (Q := fun e a' w' => Post G w0 M S0 σ.n (Q e) a' w') hT hd (fun a w h => h) ops.toList 0 σ a w β S (by simp) rfl hr h
    have e : (List.range ops.toList.length).map (0 + ·) = List.range ops.size := by simp
    rwa [e] at this
  | .loop c, Q, σ, h => fun w0 M S0 a w β S hr => by
    obtain ⟨ad, L, ks, I, had, hround⟩ := h
    obtain ⟨σ1, β1, ⟨m, xs, hh, hcut, hI⟩, hr1, hn1⟩ := Rel.adopt hr had
    intro b k cs
    have key : ∀ m a w xs hh β S, I m xs hh → Rel G w0 M S0 (St.at σ.n L xs hh) a w β S →
        ∃ e a' w', Post G w0 M S0 σ.n (Q e) a' w' ∧ Arrives P (lone (b.at a (.code c :: .inLoop c :: k)) cs w) b k cs e a' w' := by
      intro m
      induction m using Nat.strongRecOn with
      | _ m ih =>
        intro a w xs hh β S hI hr
        obtain ⟨e, a₁, w₁, ⟨σ', β', S', hq, hr', hn⟩, harr⟩ := awp_sound hT c _ _ (hround m xs hh hI) w0 M S0 a w β S hr b (.inLoop c :: k) cs
        cases e with
        | normal =>
          obtain ⟨m', xs', h', hcut', hlt, hI'⟩ := hq
          have hr2 := hr'.cut hcut'
          rw [hn] at hr2
          obtain ⟨e₂, a₂, w₂, hq₂, harr₂⟩ := ih m' hlt a₁ w₁ xs' h' _ S' hI' hr2
          exact ⟨e₂, a₂, w₂, hq₂, .of_steps (Steps.trans harr (.one step_inLoop)) harr₂⟩
        | exit id => exact ⟨_, a₁, w₁, ⟨σ', β', S', hq, hr', hn⟩, .pass (x := .inLoop c) rfl (fun _ _ => .inl (by simp)) harr⟩
        | goto l => exact ⟨_, a₁, w₁, ⟨σ', β', S', hq, hr', hn⟩, .pass (x := .inLoop c) rfl (fun _ _ => .inl (by simp)) harr⟩
        | ret => exact ⟨_, a₁, w₁, ⟨σ', β', S', hq, hr', hn⟩, .pass (x := .inLoop c) rfl (fun _ _ => .inl (by simp)) harr⟩
        | panic ch => exact ⟨_, a₁, w₁, ⟨σ', β', S', hq, hr', hn⟩, .pass (x := .inLoop c) rfl (fun _ _ => .inl (by simp)) harr⟩
        | outgrown => exact ⟨_, a₁, w₁, ⟨σ', β', S', hq, hr', hn⟩, .pass (x := .inLoop c) rfl (fun _ _ => .inl (by simp)) harr⟩
    have hr2 := hr1.cut hcut
    rw [hn1] at hr2
    obtain ⟨e, a', w', hq, harr⟩ := key m a w xs hh _ S hI hr2
    exact ⟨e, a', w', hq, .of_steps (.one step_loop) harr⟩
  | .rangeFunc f ps x c, Q, σ, h => h
  | .scope c, Q, σ, h => h
  | .refuse why, Q, σ, h => h

/-- What a function gives back. -/
def resEv (T : Tab) (σ : St) : List ResultVar → (List D → List Nat → Prop) → Prop
  | [], K => K [] []
  | .tmp t :: rs, K => argEv σ.hp (σ.get t) fun x bs => resEv T σ rs fun xs bs' => K (x :: xs) (bs ++ bs')
  | .cell c t :: rs, K => loadEv T σ.hp t (σ.get c) fun y => argEv σ.hp y fun x bs => resEv T σ rs fun xs bs' => K (x :: xs) (bs ++ bs')
def mkRes : List D → D
  | [x] => x
  | xs => .tup xs
/-- What is given back is what was promised. -/
structure Res (r : D) (xs : List D) : Prop where
  h : r = mkRes xs
def retEv (T : Tab) (rs : List ResultVar) (r : D) (e : Exit) (σ : St) : Prop :=
  match e with
  | .ret | .normal => resEv T σ rs fun xs _ => Res r xs
  | _ => False
def enterEnv : Nat → List D → List (Nat × A)
  | _, [] => []
  | i, x :: xs => (i, .d x) :: enterEnv (i + 1) xs
def St.enter (n : Nat) (args : List D) : St := { n, env := enterEnv 0 args, heap := [] }

/-- No memory hangs on it. -/
def D.sc : D → Bool
  | .bool _ | .int _ _ | .str _ | .any | .nil => true
  | .raw _ => true
  | .slice _ _ => false
  | .agg _ => false
  | .tup l => l.all fun | .bool _ | .int _ _ | .str _ | .any | .nil | .raw _ => true | _ => false

theorem D.sc_DR {S S' : Imm} {w w' : World} : ∀ {x : D} {v : Value}, x.sc = true → DR S w x v → DR S' w' x v := by
  intro x v hs h
  cases x with
  | slice _ _ => simp [D.sc] at hs
  | agg _ => simp [D.sc] at hs
  | tup l =>
    simp only [DR] at h ⊢
    obtain ⟨vs, hv, hl⟩ := h
    refine ⟨vs, hv, DRs_mk (DRs_length hl) fun j y u hj hu => ?_⟩
    obtain ⟨u', hu', hR⟩ := DRs_get hl hj
    rw [hu] at hu'; cases hu'
    simp only [D.sc, List.all_eq_true] at hs
    have := hs y (List.mem_of_getElem? hj)
    cases y <;> first | (simp at this; done) | (simp only [DR] at hR ⊢; exact hR) | exact hR
  | _ => first | exact h | (simp only [DR] at h ⊢; exact h)

theorem lk_enter {S : Imm} {w : World} {β : Own} : ∀ {args : List D} {vs : List Value} {i t : Nat} {x : A}, DRs S w args vs → lk (enterEnv i args) t = some x → ∃ u, i ≤ t ∧ vs[t - i]? = some u ∧ AR β S w x u
  | [], vs, i, t, x, _, h => by simp [enterEnv, lk] at h
  | y :: args, vs, i, t, x, hd, h => by
    simp only [DRs] at hd
    obtain ⟨u, us, rfl, h1, h2⟩ := hd
    simp only [enterEnv, lk] at h
    split at h
    · rename_i e
      subst e; cases h
      exact ⟨u, Nat.le_refl _, by simp, by simp only [AR]; exact h1⟩
    · obtain ⟨u', h3, h4, h5⟩ := lk_enter h2 h
      refine ⟨u', by omega, ?_, h5⟩
      rw [show t - i = (t - (i + 1)) + 1 by omega]
      simpa using h4

theorem resEv_sound (hT : TabOk P T) {w0 : World} {M : Own} {S0 : Imm} {σ : St} {a : Act} {w : World} {β : Own} {S : Imm} (h : Rel G w0 M S0 σ a w β S) : ∀ {rs : List ResultVar} {K : List D → List Nat → Prop}, resEv T σ rs K →
    ∃ ds bs vs, K ds bs ∧ (∀ b ∈ bs, ∃ (fr : Bool) (l : List D), σ.hp b = some (fr, l.map A.d)) ∧ (∀ bs', (∀ b ∈ bs, b ∈ bs') → DRs (frzImm β σ bs' S) w ds vs) ∧
      (rs.mapM (fun | ResultVar.tmp t => pure (a.tmps.getD t undef) | .cell c t => do loadVar t (← asAddr (a.tmps.getD c undef)) : ResultVar → Sem Value)).run P w = .ok vs w
  | [], K, hk => ⟨[], [], [], hk, by simp, fun _ _ => rfl, by simp⟩
  | .tmp t :: rs, K, hk => by
    simp only [resEv] at hk
    obtain ⟨d, bs, hk, hb, hd⟩ := argEv_sound h hk (h.get t)
    obtain ⟨ds, bs2, vs, hk, hb2, hds, hrun⟩ := resEv_sound hT h hk
    refine ⟨_, _, a.tmps.getD t undef :: vs, hk, fun b hb' => ?_, fun bs' hbs => ⟨_, _, rfl, hd bs' fun b hb => hbs b (by simp [hb]), hds bs' fun b hb => hbs b (by simp [hb])⟩, ?_⟩
    · rcases List.mem_append.1 hb' with hb' | hb'
      · exact hb b hb'
      · exact hb2 b hb'
    · simp only [List.mapM_cons, Sem.run_bind, Sem.run_pure, Result.andThen_ok, hrun]
  | .cell c t :: rs, K, hk => by
    simp only [resEv] at hk
    obtain ⟨y, v, hk, hR, hrun0⟩ := loadEv_sound (P := P) hT h.hrd hk (h.get c)
    obtain ⟨d, bs, hk, hb, hd⟩ := argEv_sound h hk hR
    obtain ⟨ds, bs2, vs, hk, hb2, hds, hrun⟩ := resEv_sound hT h hk
    refine ⟨_, _, v :: vs, hk, fun b hb' => ?_, fun bs' hbs => ⟨_, _, rfl, hd bs' fun b hb => hbs b (by simp [hb]), hds bs' fun b hb => hbs b (by simp [hb])⟩, ?_⟩
    · rcases List.mem_append.1 hb' with hb' | hb'
      · exact hb b hb'
      · exact hb2 b hb'
    · have hrun1 : (do loadVar t (← asAddr (a.tmps.getD c undef)) : Sem Value).run P w = .ok v w := by
        rw [← hrun0]
        unfold Instr.loadAt
        cases hv : a.tmps.getD c undef with
        | pointer p =>
          cases p with
          | none => rw [hv] at hrun0; simp [Instr.loadAt, Instr.sureAddr] at hrun0
          | some p => rfl
        | _ => rw [hv] at hrun0; simp [Instr.loadAt, Instr.sureAddr] at hrun0
      simp only [List.mapM_cons, Sem.run_bind, hrun1, Sem.run_pure, Result.andThen_ok, hrun]

/-- A FUNCTION KEEPS ITS CONTRACT, IF ITS CODE, WALKED, GIVES WHAT THE CONTRACT SAYS. -/
theorem sim_of_awp (hT : TabOk P T) {f : FuncId} {fn : Func} {c : Code} {args : List D} {r : D} (hf : P.funcs[f]? = some fn) (hb : fn.body = some c) (hname : (fn.name == "runtime.NumGoroutine") = false) (hn : args.length ≤ fn.ntmps ∧ fn.ntmps ≤ 1000000)
    (h : awp P G T c (retEv T fn.results.toList r) (St.enter fn.ntmps args)) : Sim P G r.sc f args r := by
  refine ⟨by simp [callable, hf, hb, hname], fun S w vs hS hG hargs => ?_⟩
  refine calls_of_wp hf hb ?_
  have hlen := DRs_length hargs
  have hrel : Rel G w (fun _ => none) S (St.enter fn.ntmps args) { tmps := vs.toArray ++ Array.replicate (fn.ntmps - vs.toArray.size) undef, defers := [] } w (fun _ => none) S := by
    refine { defers := rfl, size := ?_, env := ?_, glob := hG, keys := ?_, rd := ?_, live := ?_, froz := ?_, fd := ?_, nilb := ?_, inj := ?_, imm := hS, old := fun _ _ h _ => .inl h, ext := ⟨rfl, rfl, rfl, Nat.le_refl _, fun _ _ _ => rfl, fun k C Tc fr hk => ⟨C, hk, rfl⟩⟩, stay := fun _ _ _ h => absurd rfl h, small := hn.2, src := fun _ _ h => by cases h }
    · simp [St.enter]; omega
    · intro t x hx
      obtain ⟨u, _, hu, hR⟩ := lk_enter (β := fun _ => none) hargs hx
      simp only [Nat.sub_zero] at hu
      have hlt : t < vs.length := (List.getElem?_eq_some_iff.1 hu).1
      have : (vs.toArray ++ Array.replicate (fn.ntmps - vs.toArray.size) undef).getD t undef = u := by
        rw [Array.getD_eq_getD_getElem?, Array.getElem?_append, if_pos (by simpa using hlt)]
        simp [hu]
      rw [this]; exact hR
    all_goals intros; simp_all [St.enter, lk]
  refine wp_mono (awp_sound hT c _ _ h w _ _ _ w _ S hrel) ?_
  rintro e a' w' ⟨σ', β', S', hq, hr, hn'⟩
  have hfin : resEv T σ' fn.results.toList (fun xs _ => Res r xs) → bodyPost P fn (fun e w' => ∃ v, e = .returned v ∧ RowKit.Below w.heap.size w w' ∧
      ∃ S' : Imm, (∀ k o, S' k o → (r.sc = false ∧ S k o) ∨ (w.heap.size ≤ k ∧ k < w'.heap.size)) ∧ DR S' w' r v) .ret a' w' := by
    intro hq
    obtain ⟨ds, bs, us, ⟨rfl⟩, hbs, hds, hrun⟩ := resEv_sound hT hr hq
    have hd := hds bs (fun _ h => h)
    have hfr := hr.freeze hbs
    have hres : (results fn a'.tmps).run P w' = .ok (if h : us.toArray.size = 1 then us.toArray[0] else .tuple us.toArray) w' := by
      unfold results
      rw [Array.mapM_eq_mapM_toList]
      have : (List.mapM (fun | ResultVar.tmp t => pure (a'.tmps.getD t undef) | .cell c t => do loadVar t (← asAddr (a'.tmps.getD c undef)) : ResultVar → Sem Value) fn.results.toList).run P w' = .ok us w' := hrun
      simp only [Sem.run_bind, Sem.run_map]
      erw [this]
      simp only [Result.andThen_ok, Sem.run_pure]
    have hR : DR (frzImm β' σ' bs S') w' (mkRes ds) (if h : us.toArray.size = 1 then us.toArray[0] else .tuple us.toArray) := by
      have hl := DRs_length hd
      unfold mkRes
      split
      · rename_i x
        simp only [DRs] at hd
        obtain ⟨u, us', rfl, h1, rfl⟩ := hd
        simpa using h1
      · rename_i hne
        rw [dif_neg]
        · simp only [DR]; exact ⟨us.toArray, rfl, hd⟩
        · intro h1
          have : ds.length = 1 := by rw [← hl]; simpa using h1
          obtain ⟨x, rfl⟩ := List.length_eq_one_iff.1 this
          exact hne x rfl
    refine ⟨hr.defers, _, hres, _, rfl, ⟨hr.ext.os, hr.ext.tape, hr.ext.output, hr.ext.size, fun k hk => hr.ext.block k hk (by rintro ⟨_, h⟩; cases h)⟩, ?_⟩
    cases hsc : (mkRes ds).sc with
    | true => exact ⟨fun _ _ => False, fun _ _ h => h.elim, D.sc_DR hsc hR⟩
    | false =>
      refine ⟨_, fun k o hk => ?_, hR⟩
      by_cases hlt : k < w.heap.size
      · rcases hfr.old k o hk hlt with h1 | h1
        · exact .inl ⟨rfl, h1⟩
        · obtain ⟨_, h1⟩ := h1; cases h1
      · exact .inr ⟨by omega, hfr.imm k o hk⟩
  cases e with
  | normal => exact hfin hq
  | ret => exact hfin hq
  | _ => exact hq.elim

/-- The same, the marks as they are wanted. -/
theorem sim_mk (hT : TabOk P T) {f : FuncId} {fn : Func} {c : Code} {args : List D} {r : D} {fresh : Bool} (hf : P.funcs[f]? = some fn) (hb : fn.body = some c) (hname : (fn.name == "runtime.NumGoroutine") = false) (hs : r.sc = fresh) (hn : args.length ≤ fn.ntmps ∧ fn.ntmps ≤ 1000000)
    (h : awp P G T c (retEv T fn.results.toList r) (St.enter fn.ntmps args)) : Sim P G fresh f args r := hs ▸ sim_of_awp hT hf hb hname hn h

/-- What is given back, with memory of the caller's own. -/
inductive RetA (T : Tab) (rs : List ResultVar) (r : A) (hout : Hp) (σ : St) : Prop where
  | own (t : Nat) (h : rs = [.tmp t]) (h1 : σ.get t = r) (h2 : σ.heap.filter (fun x => (hout.map (·.1)).contains x.1) = hout)
  | data (x : D) (h : resEv T σ rs fun xs bs => mkRes xs = x ∧ (frzH σ.heap bs).filter (fun x => (hout.map (·.1)).contains x.1) = hout) (h1 : r = .d x)
def retA (T : Tab) (rs : List ResultVar) (r : A) (hout : Hp) (e : Exit) (σ : St) : Prop :=
  match e with
  | .ret | .normal => RetA T rs r hout σ
  | _ => False
def enterA : Nat → List A → List (Nat × A)
  | _, [] => []
  | i, x :: xs => (i, x) :: enterA (i + 1) xs
theorem lk_enterA {S : Imm} {w : World} {β : Own} : ∀ {args : List A} {vs : List Value} {i t : Nat} {x : A}, ARs β S w args vs → lk (enterA i args) t = some x → ∃ u, i ≤ t ∧ vs[t - i]? = some u ∧ AR β S w x u
  | [], vs, i, t, x, h, hx => by simp [enterA, lk] at hx
  | y :: ys, vs, i, t, x, h, hx => by
    simp only [ARs] at h
    obtain ⟨u, us, rfl, h1, h2⟩ := h
    simp only [enterA, lk] at hx
    split at hx
    · rename_i e
      subst e
      cases hx
      exact ⟨u, Nat.le_refl _, by simp, h1⟩
    · rename_i hne
      obtain ⟨u', h3, h4, h5⟩ := lk_enterA h2 hx
      refine ⟨u', by omega, ?_, h5⟩
      have e : t - i = (t - (i + 1)) + 1 := by omega
      rw [e]; simpa using h4
theorem simA_mk (hT : TabOk P T) {f : FuncId} {fn : Func} {c : Code} {args : List A} {hin : Hp} {r : A} {hout : Hp} (hf : P.funcs[f]? = some fn) (hb : fn.body = some c) (hname : (fn.name == "runtime.NumGoroutine") = false) (hn : args.length ≤ fn.ntmps ∧ fn.ntmps ≤ 1000000)
    (r1 : A.refsIns (hin.map (·.1)) args = true) (r2 : ∀ x ∈ hin, A.refsIns (hin.map (·.1)) x.2.2 = true) (r3 : r.refsIn (hout.map (·.1)) = true) (r4 : ∀ x ∈ hout, A.refsIns (hout.map (·.1)) x.2.2 = true)
    (h : awp P G T c (retA T fn.results.toList r hout) ⟨fn.ntmps, enterA 0 args, hin⟩) : SimA P G f args hin r hout := by
  refine ⟨by simp [callable, hf, hb, hname], r1, r2, r3, r4, fun S w β vs hpre hargs => ?_⟩
  refine calls_of_wp hf hb ?_
  have hlen := ARs_length hargs
  have hrel : Rel G w β S ⟨fn.ntmps, enterA 0 args, hin⟩ { tmps := vs.toArray ++ Array.replicate (fn.ntmps - vs.toArray.size) undef, defers := [] } w β S := by
    refine { defers := rfl, size := ?_, env := ?_, glob := hpre.glob, keys := hpre.keys, rd := hpre.rd, live := hpre.live, froz := hpre.froz, fd := hpre.fd, nilb := hpre.nilb, inj := hpre.inj, imm := hpre.imm, old := hpre.old, ext := hpre.ext, stay := hpre.stay, small := hn.2, src := hpre.src }
    · simp; omega
    · intro t x hx
      obtain ⟨u, _, hu, hR⟩ := lk_enterA hargs hx
      simp only [Nat.sub_zero] at hu
      have hlt : t < vs.length := (List.getElem?_eq_some_iff.1 hu).1
      have : (vs.toArray ++ Array.replicate (fn.ntmps - vs.toArray.size) undef).getD t undef = u := by
        rw [Array.getD_eq_getD_getElem?, Array.getElem?_append, if_pos (by simpa using hlt)]
        simp [hu]
      rw [this]; exact hR
  refine wp_mono (awp_sound hT c _ _ h w _ _ _ w _ S hrel) ?_
  rintro e a' w' ⟨σ', β', S', hq, hr, hn'⟩
  have hfin : RetA T fn.results.toList r hout σ' → bodyPost P fn (fun e w' => ∃ v β' S', e = .returned v ∧ Rel G w β S (St.mem hout) act0 w' β' S' ∧ AR β' S' w' r v) .ret a' w' := by
    intro hq
    have hcut : ∀ {σ2 : St} {S2 : Imm}, Rel G w β S σ2 a' w' β' S2 → σ2.heap.filter (fun x => (hout.map (·.1)).contains x.1) = hout → Rel G w β S (St.mem hout) act0 w' (β'.only (hout.map (·.1))) S2 := by
      intro σ2 S2 h2 he
      refine (h2.cut (L := []) (ks := hout.map (·.1)) (xs := []) (hh := hout) ⟨.inl rfl, he, rfl, ?_⟩).only
      rw [List.all_eq_true]
      exact r4
    cases hq with
    | own t h0 h1 h2 =>
      refine ⟨hr.defers, a'.tmps.getD t undef, ?_, _, _, _, rfl, hcut hr h2, ?_⟩
      · unfold results
        have e1 : fn.results = #[.tmp t] := by
          cases hh : fn.results; rw [hh] at h0; simp only at h0; rw [h0]
        rw [e1]; simp
      · refine AR_only r3 ?_
        rw [← h1]; exact hr.get t
    | data x hq h1 =>
      obtain ⟨ds, bs, us, ⟨rfl, hflt⟩, hbs, hds, hrun⟩ := resEv_sound hT hr hq
      subst h1
      have hd := hds bs (fun _ h => h)
      have hfr := hr.freeze hbs
      have hfe : σ'.freeze bs = ⟨σ'.n, σ'.env, frzH σ'.heap bs⟩ := frzH_eq σ'.n σ'.env σ'.heap bs
      have hres : (results fn a'.tmps).run P w' = .ok (if h : us.toArray.size = 1 then us.toArray[0] else .tuple us.toArray) w' := by
        unfold results
        rw [Array.mapM_eq_mapM_toList]
        have : (List.mapM (fun | ResultVar.tmp t => pure (a'.tmps.getD t undef) | .cell c t => do loadVar t (← asAddr (a'.tmps.getD c undef)) : ResultVar → Sem Value) fn.results.toList).run P w' = .ok us w' := hrun
        simp only [Sem.run_bind, Sem.run_map]
        erw [this]
        simp only [Result.andThen_ok, Sem.run_pure]
      have hR : DR (frzImm β' σ' bs S') w' (mkRes ds) (if h : us.toArray.size = 1 then us.toArray[0] else .tuple us.toArray) := by
        have hl := DRs_length hd
        unfold mkRes
        split
        · rename_i x
          simp only [DRs] at hd
          obtain ⟨u, us', rfl, h1, rfl⟩ := hd
          simpa using h1
        · rename_i hne
          rw [dif_neg]
          · simp only [DR]; exact ⟨us.toArray, rfl, hd⟩
          · intro h1
            have : ds.length = 1 := by rw [← hl]; simpa using h1
            obtain ⟨x, rfl⟩ := List.length_eq_one_iff.1 this
            exact hne x rfl
      rw [hfe] at hfr
      exact ⟨hr.defers, _, hres, _, _, _, rfl, hcut hfr hflt, by simp only [AR]; exact hR⟩
  cases e with
  | normal => exact hfin hq
  | ret => exact hfin hq
  | _ => exact hq.elim
end
end Go.Ev
