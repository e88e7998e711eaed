/- What an operation that turns no memory gives. -/
import Derived.Test.YtmgbegcamhkblaaDoorEvB
set_option linter.unusedSimpArgs false
set_option linter.unusedVariables false
namespace Go.Ev
open Go

/-- A side condition, and what comes behind it. -/
structure Cd (c k : Prop) : Prop where
  c : c
  k : k
/-- A branch. -/
structure Br (t : Bool) (a b : Prop) : Prop where
  tt : t = true → a
  ff : t = false → b
/-- A branch on what can be decided. -/
theorem Br.dec {p : Prop} [Decidable p] {a b : Prop} (ha : p → a) (hb : ¬ p → b) : Br (decide p) a b := ⟨fun h => ha (of_decide_eq_true h), fun h => hb (of_decide_eq_false h)⟩
theorem Br.ndec {p : Prop} [Decidable p] {a b : Prop} (ha : ¬ p → a) (hb : p → b) : Br (!decide p) a b := ⟨fun h => ha (of_decide_eq_false (by simpa using h)), fun h => hb (of_decide_eq_true (by simpa using h))⟩
theorem Br.not {t : Bool} {a b : Prop} (h : Br t b a) : Br (!t) a b := ⟨fun e => h.ff (by simpa using e), fun e => h.tt (by simpa using e)⟩
theorem Br.t {a b : Prop} (h : a) : Br true a b := ⟨fun _ => h, (fun e => nomatch e)⟩
theorem Br.f {a b : Prop} (h : b) : Br false a b := ⟨(fun e => nomatch e), fun _ => h⟩
/-- The n-th there is. -/
inductive NthE {α : Type} (l : List α) (i : Nat) (K : α → Prop) : Prop where
  | mk (x : α) (h : l[i]? = some x) (k : K x)
/-- So many from a place on. -/
inductive TkE {α : Type} (l : List α) (o s : Nat) (K : List α → Prop) : Prop where
  | mk (xs : List α) (h : (l.drop o).take s = xs) (hl : xs.length = s) (k : K xs)
/-- The same, written otherwise. -/
inductive EqE {α : Type} (x : α) (K : α → Prop) : Prop where
  | mk (y : α) (h : x = y) (k : K y)
/-- Cells that are data. -/
inductive DsE (l : List A) (K : List D → Prop) : Prop where
  | mk (ds : List D) (h : l = ds.map A.d) (k : K ds)

def Ty.isSl (y : Ty) : Bool := match y.k with | .slice _ => true | _ => false
def intBin (op : BinOp) (k : IntKind) (x y : Int) (K : A → Prop) : Prop :=
  match op with
  | .add => EqE (k.wrap (x + y)) fun z => K (.d (.int k z))
  | .sub => EqE (k.wrap (x - y)) fun z => K (.d (.int k z))
  | .mul => EqE (k.wrap (x * y)) fun z => K (.d (.int k z))
  | .quo => Cd (y ≠ 0) (EqE (k.wrap (x.tdiv y)) fun z => K (.d (.int k z)))
  | .rem => Cd (y ≠ 0) (EqE (x.tmod y) fun z => K (.d (.int k z)))
  | .and => EqE (k.wrap (BitVec.ofInt k.bits x &&& BitVec.ofInt k.bits y).toNat) fun z => K (.d (.int k z))
  | .or => EqE (k.wrap (BitVec.ofInt k.bits x ||| BitVec.ofInt k.bits y).toNat) fun z => K (.d (.int k z))
  | .xor => EqE (k.wrap (BitVec.ofInt k.bits x ^^^ BitVec.ofInt k.bits y).toNat) fun z => K (.d (.int k z))
  | .andNot => EqE (k.wrap (BitVec.ofInt k.bits x &&& ~~~ BitVec.ofInt k.bits y).toNat) fun z => K (.d (.int k z))
  | .eql => K (.d (.bool (decide (x = y))))
  | .neq => K (.d (.bool (!decide (x = y))))
  | .lss => K (.d (.bool (decide (x < y))))
  | .leq => K (.d (.bool (decide (x ≤ y))))
  | .gtr => K (.d (.bool (decide (x > y))))
  | .geq => K (.d (.bool (decide (x ≥ y))))
  | .shl | .shr => False

def binEv (T : Tab) (op : BinOp) (xT : Nat) (a b : A) (K : A → Prop) : Prop :=
  match a, b with
  | .d (.int k x), .d (.int k' y) =>
    match op with
    | .shl => Cd (0 ≤ y) (EqE (k.wrap (x * 2 ^ min y.toNat k.bits)) fun z => K (.d (.int k z)))
    | .shr => Cd (0 ≤ y) (EqE (x.fdiv (2 ^ min y.toNat k.bits)) fun z => K (.d (.int k z)))
    | op => Cd (k = k') (intBin op k x y K)
  | .d (.bool x), .d (.bool y) =>
    Cd ((T xT).any (·.k = .bool) = true) (match op with
      | .eql => K (.d (.bool (x == y)))
      | .neq => K (.d (.bool (!(x == y))))
      | _ => False)
  | .d (.str x), .d (.str y) =>
    match op with
    | .add => Cd (x.size + y.size ≤ 2 ^ 60) (K (.d (.str (x ++ y))))
    | .eql => K (.d (.bool (x.toList == y.toList)))
    | .neq => K (.d (.bool (!(x.toList == y.toList))))
    | .lss => K (.d (.bool (Op.bytesLess x.toList y.toList)))
    | .gtr => K (.d (.bool (!(Op.bytesLess x.toList y.toList || x.toList == y.toList))))
    | .leq => K (.d (.bool (Op.bytesLess x.toList y.toList || x.toList == y.toList)))
    | .geq => K (.d (.bool (!Op.bytesLess x.toList y.toList)))
    | _ => False
  | .d (.slice _ cells), .d .nil =>
    Cd ((T xT).any Ty.isSl = true) (match op with
      | .eql => (cells = [] → K (.d (.bool true))) ∧ K (.d (.bool false))
      | .neq => (cells = [] → K (.d (.bool false))) ∧ K (.d (.bool true))
      | _ => False)
  | _, _ => False

def unEv (op : UnOp) (a : A) (K : A → Prop) : Prop :=
  match op, a with
  | .neg, .d (.int k n) => EqE (k.wrap (0 - n)) fun z => K (.d (.int k z))
  | .xor, .d (.int k n) => EqE (k.wrap (BitVec.ofInt k.bits (if k.signed then -1 else k.max) ^^^ BitVec.ofInt k.bits n).toNat) fun z => K (.d (.int k z))
  | .not, .d (.bool b) => K (.d (.bool !b))
  | _, _ => False

def tySlice (T : Tab) (t : Nat) (K : Nat → Ty → Prop) : Prop :=
  match T t with
  | some y => match y.k with
    | .slice e => match T e with
      | some ye => K e ye
      | none => False
    | _ => False
  | none => False
def tyArray (T : Tab) (t : Nat) (K : Nat → Nat → Ty → Prop) : Prop :=
  match T t with
  | some y => match y.k with
    | .array n e => match T e with
      | some ye => K n e ye
      | none => False
    | _ => False
  | none => False
def tyStruct (T : Tab) (t : Nat) (K : List (Nat × Nat × Bool) → Prop) : Prop :=
  match T t with
  | some y => match y.k with
    | .struct l => K l
    | _ => False
  | none => False

def loadEv (T : Tab) (hp : Nat → Option (Bool × List A)) (t : Nat) (a : A) (K : A → Prop) : Prop :=
  match T t with
  | some y => match a with
    | .ptr b o => match hp b with
      | some (_, l) => match y.isAgg with
        | true => TkE l o y.size fun xs => K (mkAgg xs)
        | false => NthE l o K
      | none => False
    | .elem cells => match y.isAgg with
      | true => TkE cells 0 y.size fun xs => K (.d (.agg xs))
      | false => NthE cells 0 fun x => K (.d x)
    | _ => False
  | none => False

def partEv (g : Bool) (o s : Nat) (x : A) (K : A → Prop) : Prop :=
  match x with
  | .d (.agg l) => match g with
    | true => TkE l o s fun xs => K (.d (.agg xs))
    | false => NthE l o fun x => K (.d x)
  | .agg l => match g with
    | true => TkE l o s fun xs => K (mkAgg xs)
    | false => NthE l o K
  | _ => False

def fieldAddrEv (T : Tab) (s : Nat) (a : A) (f : Nat) (K : A → Prop) : Prop :=
  tyStruct T s fun l => match l[f]? with
    | some (off, _, _) => match a with
      | .ptr b o => K (.ptr b (o + off))
      | .elem cells => K (.elem (cells.drop off))
      | _ => False
    | none => False
def fieldEv (T : Tab) (s : Nat) (a : A) (f : Nat) (K : A → Prop) : Prop :=
  tyStruct T s fun l => match l[f]? with
    | some (off, sz, g) => partEv g off sz a K
    | none => False

def indexAddrEv (T : Tab) (t : Nat) (x i : A) (K : A → Prop) : Prop :=
  match i with
  | .d (.int _ i) =>
    match x with
    | .d (.slice n cells) => tySlice T t fun _ ye => Cd ((0 ≤ i ∧ i < n) ∧ i.toNat * ye.size < cells.length) (K (.elem (cells.drop (i.toNat * ye.size))))
    | .own b o n sz => tySlice T t fun _ ye => Cd (sz = ye.size) (Cd (0 ≤ i ∧ i < n) (K (.ptr b (o + i.toNat * ye.size))))
    | .ptr b o => tyArray T t fun n _ ye => Cd (0 ≤ i ∧ i < n) (K (.ptr b (o + i.toNat * ye.size)))
    | .elem cells => tyArray T t fun n _ ye => Cd (0 ≤ i ∧ i < n) (K (.elem (cells.drop (i.toNat * ye.size))))
    | _ => False
  | _ => False
def indexEv (T : Tab) (t : Nat) (x i : A) (K : A → Prop) : Prop :=
  match i with
  | .d (.int _ i) =>
    match x with
    | .d (.str s) => Cd ((T t).any (·.k = .str) = true) (Cd (0 ≤ i ∧ i < s.size) (EqE (((nth 0 s.data.toList i.toNat).toNat : Nat) : Int) fun z => K (.d (.int .u8 z))))
    | x => tyArray T t fun n _ ye => Cd (0 ≤ i ∧ i < n) (partEv ye.isAgg (i.toNat * ye.size) ye.size x K)
  | _ => False

def convEv (T : Tab) (src dst : Nat) (a : A) (K : A → Prop) : Prop :=
  match a with
  | .d (.int _ n) => Cd ((T src).isSome = true) (match T dst with
    | some y => match y.k with
      | .int k => EqE (k.wrap n) fun z => K (.d (.int k z))
      | _ => False
    | none => False)
  | .d (.str s) => Cd ((T src).any (·.k = .str) = true) (Cd ((T dst).any (·.k = .str) = true) (K (.d (.str s))))
  | _ => False

/-- A row, its spine known. -/
def forceL {α : Type} : List α → (List α → Prop) → Prop
  | [], K => K []
  | x :: l, K => forceL l fun l => K (x :: l)
theorem forceL_eq {α : Type} : ∀ (l : List α) (K : List α → Prop), forceL l K = K l
  | [], K => rfl
  | x :: l, K => by rw [forceL, forceL_eq l]
theorem EqE.fL {α : Type} {l : List α} {K : List α → Prop} (h : forceL l K) : EqE l K := ⟨l, rfl, by rw [forceL_eq] at h; exact h⟩
theorem TkE.fL {α : Type} {l : List α} {o s : Nat} {K : List α → Prop} (h : forceL ((l.drop o).take s) fun xs => Cd (xs.length = s) (K xs)) : TkE l o s K := by
  rw [forceL_eq] at h
  exact ⟨_, rfl, h.c, h.k⟩
/-- A part's place and its cells. -/
def fillA (place : Nat → Option (Nat × Nat)) (cells : List A) : List (Nat × A) → (List A → Prop) → Prop
  | [], K => K cells
  | (i, v) :: rest, K =>
    match place i with
    | none => False
    | some (off, size) => Cd (v.full = true) (Cd (v.cells.length = size) (Cd (off + size ≤ cells.length) (forceL (setAt cells off v.cells) fun cells => fillA place cells rest K)))
def zeros (z : List ZK) : List A := z.map fun x => .d x.toD
def buildEv (T : Tab) (t : Nat) (parts : List (Nat × A)) (K : A → Prop) : Prop :=
  match T t with
  | some y => Cd ((!y.zero.isEmpty && y.isAgg) = true) (match y.k with
    | .struct l => fillA (fun i => (l[i]?).map fun x => (x.1, x.2.1)) (zeros y.zero) parts fun c => K (mkAgg c)
    | .array _ e => match T e with
      | some ye => fillA (fun i => some (i * ye.size, ye.size)) (zeros y.zero) parts fun c => K (mkAgg c)
      | none => False
    | _ => False)
  | none => False

def boundEv (x : Option A) (d : Int) (K : Int → Prop) : Prop :=
  match x with
  | none => K d
  | some (.d (.int _ i)) => K i
  | _ => False
def sliceEv (T : Tab) (hp : Nat → Option (Bool × List A)) (t : Nat) (x : A) (lo hi mx : Option A) (K : A → Prop) : Prop :=
  match mx with
  | some _ => False
  | none =>
    match x with
    | .d (.str s) => Cd ((T t).any (·.k = .str) = true) (boundEv lo 0 fun l => boundEv hi s.size fun h => Cd (0 ≤ l ∧ l ≤ h ∧ h ≤ s.size) (K (.d (.str (s.extract l.toNat h.toNat)))))
    | .d (.slice n cells) => tySlice T t fun _ ye => boundEv lo 0 fun l => boundEv hi n fun h => Cd (0 ≤ l ∧ l ≤ h ∧ h ≤ n) (EqE (.slice (h - l).toNat ((cells.drop (l.toNat * ye.size)).take ((h - l).toNat * ye.size))) fun y => K (.d y))
    | .own b o n sz => tySlice T t fun _ ye => Cd (sz = ye.size) (boundEv lo 0 fun l => boundEv hi n fun h => Cd (0 ≤ l ∧ l ≤ h ∧ h ≤ n) (K (.own b (o + l.toNat * ye.size) (h - l).toNat sz)))
    | .ptr b o => match hp b with
      | some (_, cells) => tyArray T t fun n _ ye => Cd (o + n * ye.size ≤ cells.length) (boundEv lo 0 fun l => boundEv hi n fun h => Cd (0 ≤ l ∧ l ≤ h ∧ h ≤ n) (K (.own b (o + l.toNat * ye.size) (h - l).toNat ye.size)))
      | none => False
    | _ => False

def lenEv (T : Tab) (t : Nat) (x : A) (K : A → Prop) : Prop :=
  match x with
  | .d (.slice n _) => tySlice T t fun _ _ => K (.d (.int .i64 n))
  | .d .nil => tySlice T t fun _ _ => K (.d (.int .i64 0))
  | .own _ _ n _ => tySlice T t fun _ _ => K (.d (.int .i64 n))
  | .d (.str s) => Cd ((T t).any (·.k = .str) = true) (K (.d (.int .i64 s.size)))
  | _ => tyArray T t fun n _ _ => K (.d (.int .i64 n))
def maxEv (isMax : Bool) : List A → (A → Prop) → Prop
  | [.d (.int k x), .d (.int _ y)], K => EqE (if isMax then (if y > x then y else x) else (if y < x then y else x)) fun z => K (.d (.int k z))
  | _, _ => False

def extractEv (x : A) (i : Nat) (K : A → Prop) : Prop :=
  match x with
  | .d (.tup l) => NthE l i fun x => K (.d x)
  | _ => False
def pickEv (c a b : A) (K : A → Prop) : Prop :=
  match c with
  | .d (.bool t) => Br t (K a) (K b)
  | _ => False

def valEv (T : Tab) (ev : Operand → A) (hp : Nat → Option (Bool × List A)) (op : Op) (K : A → Prop) : Prop :=
  match op with
  | .move x | .assign x => K (ev x)
  | .pick c a b => pickEv (ev c) (ev a) (ev b) K
  | .build t parts => buildEv T t (parts.toList.map fun p => (p.1, ev p.2)) K
  | .load t a => loadEv T hp t (ev a) K
  | .nilCheck x => match ev x with
    | .ptr b o => K (.ptr b o)
    | .elem c => K (.elem c)
    | _ => False
  | .binOp op xT x y _ => binEv T op xT (ev x) (ev y) K
  | .unOp op _ x => unEv op (ev x) K
  | .convert s d x => convEv T s d (ev x) K
  | .slice t x lo hi mx => sliceEv T hp t (ev x) (lo.map ev) (hi.map ev) (mx.map ev) K
  | .fieldAddr s x f => fieldAddrEv T s (ev x) f K
  | .field s x f => fieldEv T s (ev x) f K
  | .indexAddr t x i => indexAddrEv T t (ev x) (ev i) K
  | .index t x i => indexEv T t (ev x) (ev i) K
  | .extract x i => extractEv (ev x) i K
  | .call c => match c.callee with
    | .builtin .len => match c.argTypes.toList, c.args.toList with
      | [t], [x] => lenEv T t (ev x) K
      | _, _ => False
    | .builtin .max => maxEv true (c.args.toList.map ev) K
    | .builtin .min => maxEv false (c.args.toList.map ev) K
    | _ => False
  | _ => False
end Go.Ev
