/- The evaluator: states, operations, regions, code. -/
import Derived.Test.YtmgbegcamhkblaaDoorEvE
set_option linter.unusedSimpArgs false
set_option linter.unusedVariables false
namespace Go.Ev
open Go

/-- What the key stands for: the newest. -/
def lk {α : Type} : List (Nat × α) → Nat → Option α
  | [], _ => none
  | (k, x) :: l, t => if k = t then some x else lk l t

structure St where
  n : Nat
  env : List (Nat × A)
  heap : List (Nat × Bool × List A)

def St.get (σ : St) (t : Nat) : A := (lk σ.env t).getD (.d .any)
def St.put (σ : St) : Option Nat → A → St
  | some d, r => { σ with env := (d, r) :: σ.env }
  | none, _ => σ
/-- A value, its outermost word known. -/
def A.force (a : A) (K : A → Prop) : Prop :=
  match a with
  | .d x => K (.d x)
  | .ptr b o => K (.ptr b o)
  | .elem c => K (.elem c)
  | .own b o n s => K (.own b o n s)
  | .agg l => K (.agg l)
theorem A.force_eq (a : A) (K : A → Prop) : a.force K = K a := by cases a <;> rfl
/-- A slot is written; the state stands written out. -/
def St.putK (σ : St) (dst : Option Nat) (r : A) (K : St → Prop) : Prop :=
  match σ, dst with
  | ⟨n, env, heap⟩, some d => r.force fun r => K ⟨n, (d, r) :: env, heap⟩
  | ⟨n, env, heap⟩, none => K ⟨n, env, heap⟩
theorem St.putK_eq (σ : St) (dst : Option Nat) (r : A) (K : St → Prop) : σ.putK dst r K = K (σ.put dst r) := by
  cases σ
  cases dst
  · rfl
  · simp only [St.putK, A.force_eq]; rfl
abbrev Glob := Nat → List D
def St.ev (G : Glob) (σ : St) : Operand → A
  | .tmp t => σ.get t
  | .const v => constA v
  | .global g => .elem (G g)
  | .func f => .d (.raw (.func (.func f) #[] #[]))
def St.hp (σ : St) (b : Nat) : Option (Bool × List A) := lk σ.heap b

/-- nil as an empty slice, at the top and one level below. -/
def D.dn : D → D
  | .nil => .slice 0 []
  | .agg l => .agg (l.map fun | .nil => .slice 0 [] | x => x)
  | .tup l => .tup (l.map fun | .nil => .slice 0 [] | .agg m => .agg (m.map fun | .nil => .slice 0 [] | x => x) | x => x)
  | x => x

/-- A FUNCTION's CONTRACT, ON DATA: called with what reads as 'args' it returns what reads as r; of memory that was there nothing turns; fresh: what is returned lies in new memory alone. -/
def callable (P : Program) (f : FuncId) : Bool := match P.funcs[f]? with
  | some fn => fn.body.isSome && !(fn.name == "runtime.NumGoroutine")
  | none => false
structure Sim (P : Program) (G : Glob) (fresh : Bool) (f : FuncId) (args : List D) (r : D) : Prop where
  can : callable P f = true
  run : ∀ (S : Imm) (w : World) (vs : List Value), (∀ k o, S k o → k < w.heap.size) → (∀ g, DRL S w g 0 (G g)) → DRs S w args vs →
    Calls P f vs.toArray w fun e w' => ∃ v, e = .returned v ∧ RowKit.Below w.heap.size w w' ∧
      ∃ S' : Imm, (∀ k o, S' k o → (fresh = false ∧ S k o) ∨ (w.heap.size ≤ k ∧ k < w'.heap.size)) ∧ DR S' w' r v

/-- A call, what it gives. -/
inductive CallE (P : Program) (G : Glob) (f : FuncId) (xs : List D) (K : Bool → D → Prop) : Prop where
  | mk (fresh : Bool) (r : D) (h : Sim P G fresh f xs r) (k : K fresh r)
/-- Rows of it can be made. -/
def Ty.rowOk (y : Ty) : Bool := y.size != 0 && !y.zero.isEmpty && y.zero.length == y.size && y.bytes != 0
theorem Ty.rowOk_elim {y : Ty} (h : y.rowOk = true) : y.size ≠ 0 ∧ y.zero ≠ [] ∧ y.zero.length = y.size ∧ y.bytes ≠ 0 := by
  simp only [Ty.rowOk, Bool.and_eq_true, bne_iff_ne, Bool.not_eq_true', List.isEmpty_eq_false_iff, beq_iff_eq] at h
  exact ⟨h.1.1.1, h.1.1.2, h.1.2, h.2⟩

def repA {α : Type} (n : Nat) (z : List α) : List α := (List.replicate n z).flatten

def newEv (T : Tab) (ev : Operand → A) (d : Nat) (op : Op) (K : A → List A → Prop) : Prop :=
  match op with
  | .alloc e => match T e with
    | some y => Cd ((!y.zero.isEmpty) = true) (K (.ptr d 0) (zeros y.zero))
    | none => False
  | .box _ x => Cd ((ev x).full = true) (K (.ptr d 0) (ev x).cells)
  | .makeSlice t l c => tySlice T t fun _ ye => match ev l, ev c with
    | .d (.int _ l), .d (.int _ c) => Cd (l = c) (Cd (0 ≤ l ∧ ye.bytes * l ≤ 140737488355328) (Cd (ye.rowOk = true) (EqE (repA l.toNat (zeros ye.zero)) fun row => K (.own d 0 l.toNat ye.size) row)))
    | _, _ => False
  | .buildSlice t len parts => tySlice T t fun _ ye => Cd ((ye.rowOk && decide (len * ye.size ≤ 4096)) = true)
      (fillA (fun i => some (i * ye.size, ye.size)) (repA len (zeros ye.zero)) (parts.toList.map fun p => (p.1, ev p.2)) fun c => K (.own d 0 len ye.size) c)
  | .slice t x lo hi (some m) => match ev x with
    | .d (.slice _ _) => tySlice T t fun _ ye => match lo, hi with
      | none, some hi => ∃ kh km, ev hi = .d (.int kh 0) ∧ ev m = .d (.int km 0) ∧ K (.own d 0 0 ye.size) []
      | _, _ => False
    | _ => False
  | _ => False

mutual
def A.kill (b : Nat) : A → A
  | .ptr b' o => if b' = b then .d .any else .ptr b' o
  | .own b' o n sz => if b' = b then .d .any else .own b' o n sz
  | .agg l => .agg (A.kills b l)
  | x => x
def A.kills (b : Nat) : List A → List A
  | [] => []
  | x :: l => x.kill b :: A.kills b l
end
@[simp] theorem A.kills_map (b : Nat) : ∀ l : List D, A.kills b (l.map A.d) = l.map A.d
  | [] => rfl
  | x :: l => by simp [A.kills, A.kill, A.kills_map b l]

/-- The block's cells, anew. -/
def hset : List (Nat × Bool × List A) → Nat → List A → List (Nat × Bool × List A)
  | [], _, _ => []
  | (k, f, l) :: h, b, l' => if k = b then (k, f, l') :: h else (k, f, l) :: hset h b l'
def St.wr (σ : St) (b : Nat) (l : List A) : St := { σ with heap := hset σ.heap b l }
def St.kill (σ : St) (b : Nat) : St :=
  { σ with env := σ.env.map fun x => (x.1, x.2.kill b), heap := σ.heap.map fun x => (x.1, x.2.1, A.kills b x.2.2) }
def St.new (σ : St) (d : Nat) (l : List A) : St := { σ with heap := (d, false, l) :: σ.heap }
def St.freeze (σ : St) : List Nat → St
  | [] => σ
  | bs => { σ with heap := σ.heap.map fun x => (x.1, x.2.1 || bs.contains x.1, x.2.2) }

/-- What is appended, as cells. -/
def contentEv (hp : Nat → Option (Bool × List A)) (sz : Nat) (x : A) (K : Nat → List D → Prop) : Prop :=
  match x with
  | .d (.slice n l) => Cd (l.length = n * sz) (K n l)
  | .d .nil => K 0 []
  | .own b o n sz' => match hp b with
    | some (_, l) => DsE l fun ds => Cd (sz' = sz) (Cd (o + n * sz ≤ l.length) (K n ((ds.drop o).take (n * sz))))
    | none => False
  | _ => False

/-- Keys whose block may be another one: not those of the arguments' memory that stays. -/
def okKey (b o : Nat) : Nat := bif (Nat.blt b 1000000 || Nat.ble 2000000 b) then o else o + 1
theorem okKey_elim {b o : Nat} (h : okKey b o = 0) : o = 0 ∧ (b < 1000000 ∨ 2000000 ≤ b) := by
  unfold okKey at h
  cases hb : (Nat.blt b 1000000 || Nat.ble 2000000 b) with
  | false => rw [hb] at h; simp at h
  | true =>
    rw [hb] at h
    simp only [cond_true] at h
    rw [Bool.or_eq_true, Nat.blt_eq, Nat.ble_eq] at hb
    exact ⟨h, hb⟩
def wrEv (T : Tab) (G : Glob) (σ : St) (d : Option Nat) (op : Op) (K : A → St → Prop) : Prop :=
  match op with
  | .store t a x => match σ.ev G a with
    | .ptr b o => match σ.hp b, T t with
      | some (false, l), some y => Cd ((σ.ev G x).full = true) (Cd ((σ.ev G x).cells.length = y.size) (Cd ((σ.ev G x).cells.all A.one = true) (Cd (o + y.size ≤ l.length) (EqE (setAt l o (σ.ev G x).cells) fun row => K (.d .any) (σ.wr b row)))))
      | _, _ => False
    | _ => False
  | .call c => match c.callee, c.argTypes.toList, c.args.toList, d with
    | .builtin .append, [t, t2], [s, x], some d => tySlice T t fun _ ye => Cd (((T t2).any Ty.isSl && ye.rowOk) = true) <|
      contentEv σ.hp ye.size (σ.ev G x) fun m cs => Cd (∀ c ∈ cs, (A.d c).one = true) <| match σ.ev G s with
        | .d .nil => Cd (m * ye.bytes ≤ 70368744177664) (Cd ((σ.hp d).isNone = true) (EqE (cs.map A.d) fun row => K (.own d 0 m ye.size) (σ.new d row)))
        | .own b o n sz => match σ.hp b with
          | some (false, l) => Cd (okKey b o = 0 ∧ sz = ye.size) (Cd (l.length = n * sz) (Cd ((n + m) * ye.bytes ≤ 70368744177664) (DsE l fun _ => EqE (l ++ cs.map A.d) fun row => K (.own b 0 (n + m) sz) ((σ.kill b).wr b row))))
          | _ => False
        | _ => False
    | _, _, _, _ => False
  | _ => False

def argEv1 (hp : Nat → Option (Bool × List A)) (a : A) (K : D → List Nat → Prop) : Prop :=
  match a with
  | .d x => K x.dn []
  | .own b o n sz => match hp b with
    | some (_, l) => DsE l fun ds => EqE (D.slice n ((ds.drop o).take (n * sz))) fun x => K x [b]
    | none => False
  | _ => False
def argsEv1 (hp : Nat → Option (Bool × List A)) : List A → (List D → List Nat → Prop) → Prop
  | [], K => K [] []
  | a :: as, K => argEv1 hp a fun x bs => argsEv1 hp as fun xs bs' => K (x :: xs) (bs ++ bs')
def argEv (hp : Nat → Option (Bool × List A)) (a : A) (K : D → List Nat → Prop) : Prop :=
  match a with
  | .agg l => argsEv1 hp l fun xs bs => K (.agg xs) bs
  | a => argEv1 hp a K
def argsEv (hp : Nat → Option (Bool × List A)) : List A → (List D → List Nat → Prop) → Prop
  | [], K => K [] []
  | a :: as, K => argEv hp a fun x bs => argsEv hp as fun xs bs' => K (x :: xs) (bs ++ bs')

def callEv (P : Program) (G : Glob) (σ : St) (op : Op) (K : A → St → Prop) : Prop :=
  match op with
  | .call c => match c.callee with
    | .value (.func f) => argsEv σ.hp (c.args.toList.map (σ.ev G)) fun xs bs => CallE P G f xs fun fresh r => K (.d r) (if fresh then σ else σ.freeze bs)
    | _ => False
  | _ => False

/-- Of which kind: 0 a value · 1 new memory · 2 memory is written · 3 a call. -/
def kindOf : Op → Nat
  | .alloc _ | .box _ _ | .makeSlice _ _ _ | .buildSlice _ _ _ | .slice _ _ _ _ (some _) => 1
  | .store _ _ _ => 2
  | .call c => match c.callee with
    | .builtin .append | .builtin .copy => 2
    | .builtin _ => 0
    | _ => 3
  | _ => 0

def evOp (P : Program) (G : Glob) (T : Tab) (σ : St) (o : Oper) (K : St → Prop) : Prop :=
  match kindOf o.op with
  | 0 => valEv T (σ.ev G) σ.hp o.op fun r => σ.putK o.dst r K
  | 1 => match o.dst with
    | some d => Cd ((σ.hp d).isNone = true) (newEv T (σ.ev G) d o.op fun r l => (σ.new d l).putK (some d) r K)
    | none => False
  | 2 => wrEv T G σ o.dst o.op fun r σ' => σ'.putK o.dst r K
  | _ => callEv P G σ o.op fun r σ' => σ'.putK o.dst r K

/-- The slot of a guard. -/
def gtmp (ops : Array Oper) (j : Nat) : Option Nat := (ops[j]?).bind (·.dst)

def evGuard (ops : Array Oper) (σ : St) (o : Oper) (yes : St → Prop) (no : St → Prop) : Prop :=
  match o.guard with
  | none => yes σ
  | some (j, want) => match gtmp ops j with
    | none => False
    | some g => match σ.get g with
      | .d (.bool t) => match want with
        | true => Br t (σ.putK (some g) (.d (.bool true)) yes) (σ.putK (some g) (.d (.bool false)) no)
        | false => Br t (σ.putK (some g) (.d (.bool true)) no) (σ.putK (some g) (.d (.bool false)) yes)
      | .d (.tup []) => no σ
      | _ => False

def evOps (P : Program) (G : Glob) (T : Tab) (ops : Array Oper) : List Oper → St → (St → Prop) → Prop
  | [], σ, Q => Q σ
  | o :: rest, σ, Q => evGuard ops σ o (fun σ => evOp P G T σ o fun σ' => evOps P G T ops rest σ' Q) (fun σ => σ.putK o.dst (.d (.tup [])) fun σ => evOps P G T ops rest σ Q)


/-- The blocks of a map of keys. -/
def Own.at (M : Own) (k : Nat) : Prop := ∃ b, M b = some (some k)
/-- What the call has left as it was: all but the blocks M. -/
structure Ext (w0 : World) (M : Own) (w : World) : Prop where
  os : w.os = w0.os
  tape : w.tape = w0.tape
  output : w.output = w0.output
  size : w0.heap.size ≤ w.heap.size
  block : ∀ k, k < w0.heap.size → ¬ M.at k → w.heap[k]? = w0.heap[k]?
  shapes : Shapes w0 w

/-- THE STATE AND WHAT IT STANDS FOR. -/
structure Rel (G : Glob) (w0 : World) (M : Own) (S0 : Imm) (σ : St) (a : Act) (w : World) (β : Own) (S : Imm) : Prop where
  defers : a.defers = []
  size : a.tmps.size = σ.n
  env : ∀ t x, lk σ.env t = some x → AR β S w x (a.tmps.getD t undef)
  glob : ∀ g, DRL S w g 0 (G g)
  keys : ∀ b, β b ≠ none → lk σ.heap b ≠ none
  rd : ∀ b k fr l, β b = some (some k) → lk σ.heap b = some (fr, l) → Rd β S w k l
  live : ∀ b k l, β b = some (some k) → lk σ.heap b = some (false, l) → (∀ o, ¬ S k o) ∧ (w0.heap.size ≤ k ∨ M.at k)
  froz : ∀ b k l, β b = some (some k) → lk σ.heap b = some (true, l) → ∃ ds : List D, l = ds.map A.d ∧ DRL S w k 0 ds
  fd : ∀ b l, lk σ.heap b = some (true, l) → ∃ ds : List D, l = ds.map A.d
  nilb : ∀ b fr l, β b = some none → lk σ.heap b = some (fr, l) → l = []
  inj : ∀ b b' k, β b = some (some k) → β b' = some (some k) → b = b'
  imm : ∀ k o, S k o → k < w.heap.size
  old : ∀ k o, S k o → k < w0.heap.size → S0 k o ∨ M.at k
  ext : Ext w0 M w
  stay : ∀ b, 1000000 ≤ b → b < 2000000 → lk σ.heap b ≠ none → β b = M b
  small : σ.n ≤ 1000000
  src : ∀ b k, β b = some (some k) → w0.heap.size ≤ k ∨ M.at k

theorem Rel.get {G : Glob} {w0 : World} {M : Own} {S0 : Imm} {σ : St} {a : Act} {w : World} {β : Own} {S : Imm} (h : Rel G w0 M S0 σ a w β S) (t : Nat) : AR β S w (σ.get t) (a.tmps.getD t undef) := by
  unfold St.get
  cases hl : lk σ.env t with
  | none => simp [AR, DR]
  | some x => exact h.env t x hl
theorem Rel.ev {G : Glob} {w0 : World} {M : Own} {S0 : Imm} {σ : St} {a : Act} {w : World} {β : Own} {S : Imm} (h : Rel G w0 M S0 σ a w β S) (x : Operand) : AR β S w (σ.ev G x) (a.eval x) := by
  cases x with
  | tmp t => exact h.get t
  | const v => exact AR_const v
  | global g => simp only [St.ev, AR, Act.eval]; exact ⟨g, 0, rfl, h.glob g⟩
  | func f => simp only [St.ev, AR, DR, Act.eval]
theorem Rel.hrd {G : Glob} {w0 : World} {M : Own} {S0 : Imm} {σ : St} {a : Act} {w : World} {β : Own} {S : Imm} (h : Rel G w0 M S0 σ a w β S) : HeapRd β S w σ.hp := fun b k fr l hb hl => h.rd b k fr l hb hl

/-- A slot is written. -/
theorem Rel.put {G : Glob} {w0 : World} {M : Own} {S0 : Imm} {σ : St} {a : Act} {w : World} {β : Own} {S : Imm} (h : Rel G w0 M S0 σ a w β S) {dst : Option Nat} {r : A} {v : Value} (hr : AR β S w r v) (hd : ∀ d, dst = some d → d < σ.n) :
    Rel G w0 M S0 (σ.put dst r) (a.put dst v) w β S := by
  cases dst with
  | none => exact h
  | some d =>
    refine { h with defers := ?_, size := ?_, env := ?_ }
    · exact h.defers
    · simpa [Act.put, St.put] using h.size
    · intro t x hx
      simp only [St.put, lk] at hx
      have hdn := hd d rfl
      rw [← h.size] at hdn
      simp only [Act.put]
      split at hx
      · rename_i e
        subst e
        cases hx
        simpa [Array.getElem?_setIfInBounds, hdn] using hr
      · rename_i e
        have := h.env t x hx
        simpa [Array.getElem?_setIfInBounds, e] using this

/-- The semantic reading of a walk. -/
def Wp (P : Program) (G : Glob) (c : Code) (Q : Exit → St → Prop) (σ : St) : Prop :=
  ∀ w0 M S0 a w β S, Rel G w0 M S0 σ a w β S → c.wp P (fun e a' w' => ∃ σ' β' S', Q e σ' ∧ Rel G w0 M S0 σ' a' w' β' S') a w
end Go.Ev
